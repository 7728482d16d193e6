/- Texts of one proof, one behind the other: each tells what it proves. -/
import Derived.Test.YtijldkknhphgcaaGreatCCheckGraph4
import Derived.Test.YtijldkknhphgcaaGreatCCheckGraph12
import Derived.Test.YtijldkknhphgcaaGreatCCheckGraph3

section
/- A graph's check (the document's). No condition. -/
set_option linter.unusedVariables false
set_option linter.unusedSimpArgs false
namespace Go.Proofs.YtijldkknhphgcaaGreat.Pv
open Go.RowKit
theorem ret_chk {H:List HB} {b el:Nat} {l:List Int} {c i:Int} {r:Chk} (hb:H[b]? = some (.p el 1 (l.map iRow))) (e:(l,c,i) = r) :
  XLe true H (.tup [.o false [.sl b 0 l.length l.length],.p false [.v (.int .i64 c)],.p false [.v (.int .i64 i)]]) (chkX r):=by
 subst e
 refine .tup (.cons (.o _ _ _ (.cons (.sl _ _ _ _ _ _ _ hb (List.length_map ..) rfl (.inr ?_) rfl) .nil)) (.cons (.p _ _ _ (.cons (.v _ _ rfl) .nil)) (.cons (.p _ _ _ (.cons (.v _ _ rfl) .nil)) .nil)))
 intro r hr x hx
 obtain ⟨y,_,rfl⟩:=List.mem_map.1 hr
 simp at hx
 exact ⟨_,hx⟩
theorem getD_mem {α:Type} [Inhabited α] {l:List α} {k:Nat} (h:k < l.length):l.getD k default ∈ l:=by simp [h]
theorem good_at {l:List RtD} (h:LsOk l) (ha:l.all rokF = true) {k:Nat} (hk:k < l.length):RGood (l.getD k default):=⟨h.2 _ (getD_mem hk),List.all_eq_true.1 ha _ (getD_mem hk)⟩
abbrev chkG (g:Gr):Chk:=chkF rokF cmpF g
abbrev restG (g:Gr):Chk:=outF g (chkN rokF g.nodes [g.inp])
theorem chk_bad {g:Gr} (h:¬ HeadOk rokF g):(([]:List Int),(10:Int),(0:Int)) = chkG g:=by unfold chkG chkF;rw [if_neg h]
theorem chk_head {g:Gr} (h:HeadOk rokF g):chkG g = boxN cmpF (restG g) (g.lo.drop 0) (g.hi.drop 0) 0:=by unfold chkG chkF;rw [if_pos h];rfl
theorem code_inv {rok:RtD → Bool} {n:Nod} {dims:List Int} (h:codeF rok n dims = 0):FormOk rok n ∧ srcIn n dims ∧ dimOf n dims ≠ 0:=by
 unfold codeF at h
 split at h
 ·cases h
 rename_i h1
 split at h
 ·cases h
 rename_i h2
 split at h
 ·cases h
 rename_i h3
 exact ⟨Decidable.of_not_not h1,Decidable.of_not_not h2,h3⟩
def kSt1 (g:Gr) (nx k:Nat):St:=⟨[(1,.one (.o false [.pt 0 0 0 1])),(5,.one (.o false [.sl 1 0 0 0])),(6,int .i64 k)],[.p 33 6 [rowG g],.p 3 1 []],123,nx,0⟩
def kSt2 (g:Gr) (nx:Nat) (dims:List Int):St:=⟨[(1,.one (.o false [.pt 0 0 0 1])),(5,.one (.o false [.sl 1 0 0 0])),(7,.one (.o false [.sl 2 0 dims.length dims.length])),(8,int .i64 dims.length)],[.p 33 6 [rowG g],.p 3 1 [],.p 3 1 (dims.map iRow)],123,nx,0⟩
set_option maxHeartbeats 4000000 in
theorem specCheck_valid:Valid Tryz.prog 7 (chkCon rokF cmpF):=by
 refine valid_intro (ts:=[2,3,4]) (chkCon rokF cmpF) Tryz.func7 rfl rfl rfl (by decide) (fun _=>Nat.le_of_ble_eq_true rfl) ?_
 rintro (g:Gr) (hg:GOk g) nm nx
 have hnl:(g.nodes.map rowN).length = g.nodes.length:=List.length_map ..
 have hll:(g.lo.map rowR).length = g.lo.length:=List.length_map ..
 have hhl:(g.hi.map rowR).length = g.hi.length:=List.length_map ..
 have hn0:=hg.2.2.1
 ((conv=>whnf);repeat'((first|refine zo T rfl ?_|refine zl ?_);conv=>whnf))
 refine .inl ⟨inCon,(_,_,_),in_valid,trivial,.cons (.same _ _) (.cons (.same _ _) (.cons (.same _ _) .nil)),?_⟩
 ((conv=>whnf);repeat'((first|refine zo T rfl ?_|refine zl ?_);conv=>whnf))
 refine ⟨fun h=>?_,fun h=>?_⟩
 rotate_left
 ·(repeat'((first|refine zo T rfl ?_|refine zl ?_|refine zp h ?_|refine zq h ?_|refine zp rfl ?_|refine zq rfl ?_);conv=>whnf))
  refine W_cond rfl (fun _=>?_) (fun h=>by cases h)
  have h:(!(decide (1 ≤ g.inp) && decide (g.inp ≤ 1000))) = true:=h
  simp at h
  ((conv=>whnf);repeat'((first|refine zo T rfl ?_|refine zl ?_);conv=>whnf))
  exact W_ret ⟨.inr rfl,ret_chk (l:=[]) rfl (chk_bad fun hh=>by unfold HeadOk at hh;omega)⟩
 have h1:(!(decide (1 ≤ g.inp) && decide (g.inp ≤ 1000))) = false:=h
 (repeat'((first|refine zo T rfl ?_|refine zl ?_|refine zp h ?_|refine zq h ?_|refine zp rfl ?_|refine zq rfl ?_);conv=>whnf))
 refine .inl ⟨inCon,(_,_,_),in_valid,trivial,.cons (.same _ _) (.cons (.same _ _) (.cons (.same _ _) .nil)),?_⟩
 (repeat'((first|refine zo T rfl ?_|refine zl ?_|refine zp h ?_|refine zq h ?_|refine zp rfl ?_|refine zq rfl ?_);conv=>whnf))
 refine ⟨fun h=>?_,fun h=>?_⟩
 rotate_left
 ·(repeat'((first|refine zo T rfl ?_|refine zl ?_|refine zp h ?_|refine zq h ?_|refine zp rfl ?_|refine zq rfl ?_);conv=>whnf))
  refine W_cond rfl (fun _=>?_) (fun h=>by cases h)
  have h:(cond (!(decide (1 ≤ g.inp) && decide (g.inp ≤ 1000))) true (!(decide (0 ≤ g.rnd) && decide (g.rnd ≤ 1000)))) = true:=h
  rw [h1] at h
  simp at h
  ((conv=>whnf);repeat'((first|refine zo T rfl ?_|refine zl ?_);conv=>whnf))
  exact W_ret ⟨.inr rfl,ret_chk (l:=[]) rfl (chk_bad fun hh=>by unfold HeadOk at hh;omega)⟩
 have h2:(cond (!(decide (1 ≤ g.inp) && decide (g.inp ≤ 1000))) true (!(decide (0 ≤ g.rnd) && decide (g.rnd ≤ 1000)))) = false:=h
 (repeat'((first|refine zo T rfl ?_|refine zl ?_|refine zp h ?_|refine zq h ?_|refine zp rfl ?_|refine zq rfl ?_);conv=>whnf))
 refine W_cond rfl (fun h=>?_) (fun h=>?_)
 ·have h:(cond (cond (!(decide (1 ≤ g.inp) && decide (g.inp ≤ 1000))) true (!(decide (0 ≤ g.rnd) && decide (g.rnd ≤ 1000)))) true (decide (((g.nodes.map rowN).length:Int) > 1000))) = true:=h
  rw [h2] at h
  have h:=of_decide_eq_true (show decide (((g.nodes.map rowN).length:Int) > 1000) = true from h)
  ((conv=>whnf);repeat'((first|refine zo T rfl ?_|refine zl ?_);conv=>whnf))
  exact W_ret ⟨.inr rfl,ret_chk (l:=[]) rfl (chk_bad fun hh=>by unfold HeadOk at hh;omega)⟩
 have h3:(cond (cond (!(decide (1 ≤ g.inp) && decide (g.inp ≤ 1000))) true (!(decide (0 ≤ g.rnd) && decide (g.rnd ≤ 1000)))) true (decide (((g.nodes.map rowN).length:Int) > 1000))) = false:=h
 rw [h2] at h3
 have h3:=of_decide_eq_false (show decide (((g.nodes.map rowN).length:Int) > 1000) = false from h3)
 rw [h1] at h2
 simp at h1 h2
 ((conv=>whnf);repeat'((first|refine zo T rfl ?_|refine zl ?_);conv=>whnf))
 refine ⟨fun h=>?_,fun h=>?_⟩
 rotate_left
 ·(repeat'((first|refine zo T rfl ?_|refine zl ?_|refine zp h ?_|refine zq h ?_|refine zp rfl ?_|refine zq rfl ?_);conv=>whnf))
  refine W_cond rfl (fun _=>?_) (fun h=>by cases h)
  have h:=bne_iff_ne.1 (show (((g.lo.map rowR).length:Int) != g.inp) = true from h)
  ((conv=>whnf);repeat'((first|refine zo T rfl ?_|refine zl ?_);conv=>whnf))
  exact W_ret ⟨.inr rfl,ret_chk (l:=[]) rfl (chk_bad fun hh=>by unfold HeadOk at hh;omega)⟩
 have h4:(((g.lo.map rowR).length:Int) != g.inp) = false:=h
 (repeat'((first|refine zo T rfl ?_|refine zl ?_|refine zp h ?_|refine zq h ?_|refine zp rfl ?_|refine zq rfl ?_);conv=>whnf))
 refine ⟨fun h=>?_,fun h=>?_⟩
 rotate_left
 ·(repeat'((first|refine zo T rfl ?_|refine zl ?_|refine zp h ?_|refine zq h ?_|refine zp rfl ?_|refine zq rfl ?_);conv=>whnf))
  refine W_cond rfl (fun _=>?_) (fun h=>by cases h)
  have h:(cond (((g.lo.map rowR).length:Int) != g.inp) true (((g.hi.map rowR).length:Int) != g.inp)) = true:=h
  rw [h4] at h
  have h:=bne_iff_ne.1 (show (((g.hi.map rowR).length:Int) != g.inp) = true from h)
  ((conv=>whnf);repeat'((first|refine zo T rfl ?_|refine zl ?_);conv=>whnf))
  exact W_ret ⟨.inr rfl,ret_chk (l:=[]) rfl (chk_bad fun hh=>by unfold HeadOk at hh;omega)⟩
 have h5:(cond (((g.lo.map rowR).length:Int) != g.inp) true (((g.hi.map rowR).length:Int) != g.inp)) = false:=h
 (repeat'((first|refine zo T rfl ?_|refine zl ?_|refine zp h ?_|refine zq h ?_|refine zp rfl ?_|refine zq rfl ?_);conv=>whnf))
 refine .inl ⟨allCon rokF,g.lo,allOk_valid specRatOk_valid,hg.1,.cons (.same _ _) .nil,?_⟩
 (repeat'((first|refine zo T rfl ?_|refine zl ?_|refine zp h ?_|refine zq h ?_|refine zp rfl ?_|refine zq rfl ?_);conv=>whnf))
 refine ⟨fun h=>?_,fun h=>?_⟩
 rotate_left
 ·(repeat'((first|refine zo T rfl ?_|refine zl ?_|refine zp h ?_|refine zq h ?_|refine zp rfl ?_|refine zq rfl ?_);conv=>whnf))
  refine W_cond rfl (fun _=>?_) (fun h=>by cases h)
  have h:(cond (cond (((g.lo.map rowR).length:Int) != g.inp) true (((g.hi.map rowR).length:Int) != g.inp)) true (!(g.lo.all rokF))) = true:=h
  rw [h5] at h
  have h:(!(g.lo.all rokF)) = true:=h
  ((conv=>whnf);repeat'((first|refine zo T rfl ?_|refine zl ?_);conv=>whnf))
  exact W_ret ⟨.inr rfl,ret_chk (l:=[]) rfl (chk_bad fun hh=>by unfold HeadOk at hh;rw [hh.2.2.2.2.2.1] at h;cases h)⟩
 have h6:(cond (cond (((g.lo.map rowR).length:Int) != g.inp) true (((g.hi.map rowR).length:Int) != g.inp)) true (!(g.lo.all rokF))) = false:=h
 (repeat'((first|refine zo T rfl ?_|refine zl ?_|refine zp h ?_|refine zq h ?_|refine zp rfl ?_|refine zq rfl ?_);conv=>whnf))
 refine .inl ⟨allCon rokF,g.hi,allOk_valid specRatOk_valid,hg.2.1,.cons (.same _ _) .nil,?_⟩
 (repeat'((first|refine zo T rfl ?_|refine zl ?_|refine zp h ?_|refine zq h ?_|refine zp rfl ?_|refine zq rfl ?_);conv=>whnf))
 refine W_cond rfl (fun h=>?_) (fun h=>?_)
 ·have h:(cond (cond (cond (((g.lo.map rowR).length:Int) != g.inp) true (((g.hi.map rowR).length:Int) != g.inp)) true (!(g.lo.all rokF))) true (!(g.hi.all rokF))) = true:=h
  rw [h6] at h
  have h:(!(g.hi.all rokF)) = true:=h
  ((conv=>whnf);repeat'((first|refine zo T rfl ?_|refine zl ?_);conv=>whnf))
  exact W_ret ⟨.inr rfl,ret_chk (l:=[]) rfl (chk_bad fun hh=>by unfold HeadOk at hh;rw [hh.2.2.2.2.2.2] at h;cases h)⟩
 have h7:(cond (cond (cond (((g.lo.map rowR).length:Int) != g.inp) true (((g.hi.map rowR).length:Int) != g.inp)) true (!(g.lo.all rokF))) true (!(g.hi.all rokF))) = false:=h
 rw [h6] at h7
 rw [h5] at h6
 rw [h4] at h5
 have h4:=bne_eq_false_iff_eq.1 h4
 have h5:=bne_eq_false_iff_eq.1 (show (((g.hi.map rowR).length:Int) != g.inp) = false from h5)
 have h6:g.lo.all rokF = true:=by simpa using (show (!(g.lo.all rokF)) = false from h6)
 have h7:g.hi.all rokF = true:=by simpa using (show (!(g.hi.all rokF)) = false from h7)
 have hh:HeadOk rokF g:=⟨⟨by omega,by omega⟩,⟨by omega,by omega⟩,by omega,by omega,by omega,h6,h7⟩
 ((conv=>whnf);repeat'((first|refine zo T rfl ?_|refine zl ?_);conv=>whnf))
 refine W_loop (ι:=Nat) (fun k=>k ≤ g.lo.length ∧ chkG g = boxN cmpF (restG g) (g.lo.drop k) (g.hi.drop k) k) (kSt1 g nx) (fun k=>g.lo.length - k) 0 ⟨Nat.zero_le _,chk_head hh⟩ (by (refine St.le_mk ?_ ?_ ?_ ?_ ?_ ?_ ?_ <;> kernel_rfl)) ?_
 rintro k ⟨hk,hc⟩
 ((conv=>whnf);repeat'((first|refine zo T rfl ?_|refine zl ?_);conv=>whnf))
 refine W_cond rfl (fun h=>?_) (fun h=>?_)
 ·have h:=of_decide_eq_true (show decide ((k:Int) < g.inp) = true from h)
  rw [boxN_step (by omega) (by omega)] at hc
  ((conv=>whnf);repeat'((first|refine zo T rfl ?_|refine zl ?_);conv=>whnf))
  refine W_draw T 12 rfl (by kernel_rfl) ?_
  ((conv=>whnf);repeat'((first|refine zo T rfl ?_|refine zl ?_);conv=>whnf))
  refine ⟨Int.natCast_nonneg k,by show (k:Int) < (g.lo.map rowR).length;omega,_,rowMap g.lo rowR _,?_⟩
  ((conv=>whnf);repeat'((first|refine zo T rfl ?_|refine zl ?_);conv=>whnf))
  refine ⟨Int.natCast_nonneg k,by show (k:Int) < (g.hi.map rowR).length;omega,_,rowMap g.hi rowR _,?_⟩
  ((conv=>whnf);repeat'((first|refine zo T rfl ?_|refine zl ?_);conv=>whnf))
  refine ⟨cmpCon,(g.lo.getD k default,g.hi.getD k default),specCmp_valid,⟨good_at hg.1 h6 (by omega),good_at hg.2.1 h7 (by omega)⟩,.cons (.same _ _) (.cons (.same _ _) .nil),?_⟩
  ((conv=>whnf);repeat'((first|refine zo T rfl ?_|refine zl ?_);conv=>whnf))
  refine W_cond rfl (fun h8=>?_) (fun h8=>?_)
  ·have h8:=of_decide_eq_true (show decide (cmpF (g.lo.getD k default) (g.hi.getD k default) > 0) = true from h8)
   rw [if_pos h8] at hc
   ((conv=>whnf);repeat'((first|refine zo T rfl ?_|refine zl ?_);conv=>whnf))
   exact W_ret ⟨.inr rfl,ret_chk (l:=[]) rfl hc.symm⟩
  ·have h8:=of_decide_eq_false (show decide (cmpF (g.lo.getD k default) (g.hi.getD k default) > 0) = false from h8)
   rw [if_neg h8] at hc
   ((conv=>whnf);repeat'((first|refine zo T rfl ?_|refine zl ?_);conv=>whnf))
   refine ⟨by show _ ≤ (k:Int) + 1 ∧ (k:Int) + 1 ≤ _;omega,?_⟩
   ((conv=>whnf);repeat'((first|refine zo T rfl ?_|refine zl ?_);conv=>whnf))
   exact ⟨k + 1,⟨by omega,hc⟩,by omega,by (refine St.le_mk ?_ ?_ ?_ ?_ ?_ ?_ ?_ <;> kernel_rfl)⟩
 ·have h:=of_decide_eq_false (show decide ((k:Int) < g.inp) = false from h)
  obtain rfl:k = g.lo.length:=by omega
  rw [boxN_end (Nat.le_refl _)] at hc
  ((conv=>whnf);repeat'((first|refine zo T rfl ?_|refine zl ?_);conv=>whnf))
  have hc1:chkG g = outF g (chkN rokF (g.nodes.drop (([g.inp]:List Int).length - 1)) [g.inp]):=hc
  refine W_loop (ι:=List Int) (fun dims=>(1 ≤ dims.length ∧ dims.length ≤ g.nodes.length + 1) ∧ DimsOk dims ∧ chkG g = outF g (chkN rokF (g.nodes.drop (dims.length - 1)) dims)) (kSt2 g nx) (fun dims=>g.nodes.length + 1 - dims.length) [g.inp] ⟨⟨by simp,by simp⟩,fun d hd=>(by simp at hd;omega),hc1⟩ (by (refine St.le_mk ?_ ?_ ?_ ?_ ?_ ?_ ?_ <;> kernel_rfl)) ?_
  rintro dims ⟨hd1,hd2,hc⟩
  ((conv=>whnf);repeat'((first|refine zo T rfl ?_|refine zl ?_);conv=>whnf))
  refine W_cond rfl (fun h=>?_) (fun h=>?_)
  ·have h:=of_decide_eq_true (show decide ((dims.length:Int) ≤ ((g.nodes.map rowN).length:Int)) = true from h)
   have hk:dims.length - 1 < g.nodes.length:=by omega
   have hmem:=getD_mem hk
   obtain ⟨n,hn⟩:∃ n,n = g.nodes.getD (dims.length - 1) default:=⟨_,rfl⟩
   rw [chkN_step hk,← hn] at hc
   have hdl:(dims.map iRow).length = dims.length:=List.length_map ..
   have hrow:RowAt (g.nodes.map rowN) ((dims.length:Int) - 1).toNat (rowN n):=by
    rw [show ((dims.length:Int) - 1).toNat = dims.length - 1 by omega,hn]
    exact rowMap g.nodes rowN _
   have hb:-9223372036854775808 ≤ (dims.length:Int) - 1 ∧ (dims.length:Int) - 1 ≤ 9223372036854775807:=by omega
   ((conv=>whnf);repeat'((first|refine zo T rfl ?_|refine zl ?_);conv=>whnf))
   refine .inl ⟨codeCon rokF,(g,dims),nodeCode_valid specRatOk_valid,⟨hg,hd2,hd1.1,by show dims.length ≤ g.nodes.length;omega⟩,.cons (.same _ _) (.cons (.all _ _ _ _ _ rfl hdl rfl) (.cons (.same _ _) .nil)),?_⟩
   ((conv=>whnf);repeat'((first|refine zo T rfl ?_|refine zl ?_);conv=>whnf))
   refine W_cond rfl (fun h8=>?_) (fun h8=>?_)
   ·have h8:=bne_iff_ne.1 (show (codeF rokF (g.nodes.getD (dims.length - 1) default) dims != 0) = true from h8)
    rw [← hn] at h8
    rw [if_neg h8,outF,if_neg h8] at hc
    ((conv=>whnf);repeat'((first|refine zo T rfl ?_|refine zl ?_);conv=>whnf))
    exact W_ret ⟨.inr rfl,ret_chk (l:=[]) rfl (by rw [← hn];exact hc.symm)⟩
   ·have h8:=bne_eq_false_iff_eq.1 (show (codeF rokF (g.nodes.getD (dims.length - 1) default) dims != 0) = false from h8)
    rw [← hn] at h8
    rw [if_pos h8] at hc
    obtain ⟨hf,hs,hz⟩:=code_inv h8
    have da:=dims_at hd2 hs.1.1 hs.1.2
    obtain ⟨e1,e2⟩:=ndim_eq hz
    have ha1:=hs.1.1
    have ha2:=hs.1.2
    have hs':=shape_ok hf da hz
    ((conv=>whnf);repeat'((first|refine zo T rfl ?_|refine zl ?_);conv=>whnf))
    refine W_draw T 19 rfl (by kernel_rfl) ?_
    ((conv=>whnf);repeat'((first|refine zo T rfl ?_|refine zl ?_);conv=>whnf))
    refine ⟨hb,?_⟩
    ((conv=>whnf);repeat'((first|refine zo T rfl ?_|refine zl ?_);conv=>whnf))
    refine ⟨by show 0 ≤ (dims.length:Int) - 1;omega,by show (dims.length:Int) - 1 < (g.nodes.map rowN).length;omega,_,hrow,?_⟩
    ((conv=>whnf);repeat'((first|refine zo T rfl ?_|refine zl ?_);conv=>whnf))
    refine ⟨hb,?_⟩
    ((conv=>whnf);repeat'((first|refine zo T rfl ?_|refine zl ?_);conv=>whnf))
    refine ⟨by show 0 ≤ (dims.length:Int) - 1;omega,by show (dims.length:Int) - 1 < (g.nodes.map rowN).length;omega,_,hrow,?_⟩
    ((conv=>whnf);repeat'((first|refine zo T rfl ?_|refine zl ?_);conv=>whnf))
    refine ⟨hdl,ha1,ha2,?_⟩
    ((conv=>whnf);repeat'((first|refine zo T rfl ?_|refine zl ?_);conv=>whnf))
    have hrow2:RowAt (dims.map iRow) (0 + n.a.toNat) (iRow (dimAt dims n.a)):=by
     rw [Nat.zero_add]
     exact rowMap dims iRow _
    refine ⟨hdl,by show 0 + n.a.toNat < _;omega,_,hrow2,?_⟩
    ((conv=>whnf);repeat'((first|refine zo T rfl ?_|refine zl ?_);conv=>whnf))
    refine ⟨ndimCon rokF,(n,dimAt dims n.a),nodeDim_valid,⟨hf,da,e2⟩,.cons (.same _ _) (.cons (.same _ _) .nil),?_⟩
    ((conv=>whnf);repeat'((first|refine zo T rfl ?_|refine zl ?_);conv=>whnf))
    refine ⟨rfl,rfl,hdl,?_⟩
    ((conv=>whnf);repeat'((first|refine zo T rfl ?_|refine zl ?_);conv=>whnf))
    refine ⟨rfl,rfl,rfl,?_⟩
    ((conv=>whnf);repeat'((first|refine zo T rfl ?_|refine zl ?_);conv=>whnf))
    refine ⟨by show (dims.length + 1) * 8 ≤ _;omega,by show dims.length + 1 ≤ _;omega,?_⟩
    ((conv=>whnf);repeat'((first|refine zo T rfl ?_|refine zl ?_);conv=>whnf))
    refine ⟨by show _ ≤ (dims.length:Int) + 1 ∧ (dims.length:Int) + 1 ≤ _;omega,?_⟩
    ((conv=>whnf);repeat'((first|refine zo T rfl ?_|refine zl ?_);conv=>whnf))
    have e3:dimOf n dims = ndimF n (dimAt dims n.a):=e1.symm
    have e4:dims.map iRow ++ [[.v (.int .i64 (ndimF n (dimAt dims n.a)))]] = (dims ++ [dimOf n dims]).map iRow:=by rw [e3];simp
    have e5:dims.length + 1 = (dims ++ [dimOf n dims]).length:=by simp
    refine ⟨dims ++ [dimOf n dims],⟨⟨by rw [← e5];omega,by rw [← e5];omega⟩,fun d hd=>?_,?_⟩,by rw [← e5];omega,rfl,rfl,rfl,Nat.zero_le _,⟨rfl,rfl,congrArg (HB.p _ 1) e4,trivial⟩,⟨rfl,rfl,congrArg (fun k=>X.one (.o false [.sl 2 0 k k])) e5,congrArg (fun k:Nat=>int .i64 (k:Int)) e5,trivial⟩,rfl⟩
    ·rcases List.mem_append.1 hd with hd | hd
     ·exact hd2 d hd
     ·obtain rfl:d = dimOf n dims:=by simpa using hd
      exact hs'
    ·rw [← e5,hc,show dims.length + 1 - 1 = dims.length - 1 + 1 by omega]
  ·have h:=of_decide_eq_false (show decide ((dims.length:Int) ≤ ((g.nodes.map rowN).length:Int)) = false from h)
   ((conv=>whnf);repeat'((first|refine zo T rfl ?_|refine zl ?_);conv=>whnf))
   refine .inl ⟨inCon,(_,_,_),in_valid,trivial,.cons (.same _ _) (.cons (.same _ _) (.cons (.same _ _) .nil)),?_⟩
   ((conv=>whnf);repeat'((first|refine zo T rfl ?_|refine zl ?_);conv=>whnf))
   rw [List.drop_eq_nil_of_le (by omega),chkN,outF] at hc
   refine W_cond rfl (fun h8=>?_) (fun h8=>?_)
   ·have h8:(!(decide (0 ≤ g.out) && decide (g.out ≤ ((g.nodes.map rowN).length:Int)))) = true:=h8
    simp at h8
    rw [if_pos rfl,if_neg (by omega)] at hc
    ((conv=>whnf);repeat'((first|refine zo T rfl ?_|refine zl ?_);conv=>whnf))
    exact W_ret ⟨.inr rfl,ret_chk (l:=[]) rfl hc.symm⟩
   ·have h8:(!(decide (0 ≤ g.out) && decide (g.out ≤ ((g.nodes.map rowN).length:Int)))) = false:=h8
    simp at h8
    rw [if_pos rfl,if_pos (by omega)] at hc
    ((conv=>whnf);repeat'((first|refine zo T rfl ?_|refine zl ?_);conv=>whnf))
    exact W_ret ⟨.inr rfl,ret_chk rfl hc.symm⟩
end Go.Proofs.YtijldkknhphgcaaGreat.Pv
end

section
/- The operators' methods (the program's). No condition. -/
set_option linter.unusedVariables false
set_option linter.unusedSimpArgs false
namespace Go.Proofs.YtijldkknhphgcaaGreat.Pv
open Go.RowKit
def unF (fb fk fs fv:Bool) (n:Nod):Bool:=cond (cond (cond (cond (!fb) true (n.b == 0)) (cond (!fk) true (n.k == 0)) false) (cond (!fs) true (n.s == 0)) false) (cond (!fv) true (((n.v.map rowR).length:Int) == 0)) false
def unCon (fb fk fs fv:Bool):Con:=⟨Nod,fun n=>[(true,rowN n),(false,[.v (.bool fb)]),(false,[.v (.bool fk)]),(false,[.v (.bool fs)]),(false,[.v (.bool fv)])],fun _=>True,fun _ n=>bl (unF fb fk fs fv n),true⟩
theorem unFTTT_valid:Valid Tryz.prog 188 (unCon false true true true):=by
 refine valid_intro (ts:=[10]) (unCon false true true true) Tryz.func188 rfl rfl rfl (by decide) (fun _=>Nat.le_of_ble_eq_true rfl) ?_
 rintro (n:Nod) - nm nx
 ((conv=>whnf);repeat'((first|refine zo T rfl ?_|refine zl ?_);conv=>whnf))
 (repeat'((first|refine zo T rfl ?_|refine zl ?_|refine zp rfl ?_|refine zq rfl ?_|refine zp rfl ?_|refine zq rfl ?_);conv=>whnf))
 refine ⟨fun h=>?_,fun h=>?_⟩
 rotate_left
 ·(repeat'((first|refine zo T rfl ?_|refine zl ?_|refine zp h ?_|refine zq h ?_|refine zp rfl ?_|refine zq rfl ?_);conv=>whnf))
  have h:cond (cond (!false) true (n.b == 0)) (cond (!true) true (n.k == 0)) false = false:=h
  refine W_ret ⟨.inr rfl,xV (congrArg Value.bool ?_)⟩
  show false = unF false true true true n
  unfold unF
  rw [h]
  rfl
 (repeat'((first|refine zo T rfl ?_|refine zl ?_|refine zp h ?_|refine zq h ?_|refine zp rfl ?_|refine zq rfl ?_);conv=>whnf))
 refine ⟨fun h=>?_,fun h=>?_⟩
 rotate_left
 ·(repeat'((first|refine zo T rfl ?_|refine zl ?_|refine zp h ?_|refine zq h ?_|refine zp rfl ?_|refine zq rfl ?_);conv=>whnf))
  have h:cond (cond (cond (!false) true (n.b == 0)) (cond (!true) true (n.k == 0)) false) (cond (!true) true (n.s == 0)) false = false:=h
  refine W_ret ⟨.inr rfl,xV (congrArg Value.bool ?_)⟩
  show false = unF false true true true n
  unfold unF
  rw [h]
  rfl
 (repeat'((first|refine zo T rfl ?_|refine zl ?_|refine zp h ?_|refine zq h ?_|refine zp rfl ?_|refine zq rfl ?_);conv=>whnf))
 exact W_ret ⟨.inr rfl,xV rfl⟩
theorem unTFFF_valid:Valid Tryz.prog 188 (unCon true false false false):=by
 refine valid_intro (ts:=[10]) (unCon true false false false) Tryz.func188 rfl rfl rfl (by decide) (fun _=>Nat.le_of_ble_eq_true rfl) ?_
 rintro (n:Nod) - nm nx
 ((conv=>whnf);repeat'((first|refine zo T rfl ?_|refine zl ?_);conv=>whnf))
 (repeat'((first|refine zo T rfl ?_|refine zl ?_|refine zp rfl ?_|refine zq rfl ?_|refine zp rfl ?_|refine zq rfl ?_);conv=>whnf))
 refine ⟨fun h=>?_,fun h=>?_⟩
 rotate_left
 ·(repeat'((first|refine zo T rfl ?_|refine zl ?_|refine zp h ?_|refine zq h ?_|refine zp rfl ?_|refine zq rfl ?_);conv=>whnf))
  have h:cond (!true) true (n.b == 0) = false:=h
  refine W_ret ⟨.inr rfl,xV (congrArg Value.bool ?_)⟩
  show false = unF true false false false n
  unfold unF
  rw [h]
  rfl
 (repeat'((first|refine zo T rfl ?_|refine zl ?_|refine zp h ?_|refine zq h ?_|refine zp rfl ?_|refine zq rfl ?_);conv=>whnf))
 refine ⟨fun h=>?_,fun h=>?_⟩
 rotate_left
 ·(repeat'((first|refine zo T rfl ?_|refine zl ?_|refine zp h ?_|refine zq h ?_|refine zp rfl ?_|refine zq rfl ?_);conv=>whnf))
  have h:cond (cond (!true) true (n.b == 0)) (cond (!false) true (n.k == 0)) false = false:=h
  refine W_ret ⟨.inr rfl,xV (congrArg Value.bool ?_)⟩
  show false = unF true false false false n
  unfold unF
  rw [h]
  rfl
 (repeat'((first|refine zo T rfl ?_|refine zl ?_|refine zp h ?_|refine zq h ?_|refine zp rfl ?_|refine zq rfl ?_);conv=>whnf))
 refine ⟨fun h=>?_,fun h=>?_⟩
 rotate_left
 ·(repeat'((first|refine zo T rfl ?_|refine zl ?_|refine zp h ?_|refine zq h ?_|refine zp rfl ?_|refine zq rfl ?_);conv=>whnf))
  have h:cond (cond (cond (!true) true (n.b == 0)) (cond (!false) true (n.k == 0)) false) (cond (!false) true (n.s == 0)) false = false:=h
  refine W_ret ⟨.inr rfl,xV (congrArg Value.bool ?_)⟩
  show false = unF true false false false n
  unfold unF
  rw [h]
  rfl
 (repeat'((first|refine zo T rfl ?_|refine zl ?_|refine zp h ?_|refine zq h ?_|refine zp rfl ?_|refine zq rfl ?_);conv=>whnf))
 exact W_ret ⟨.inr rfl,xV rfl⟩
theorem unTFTF_valid:Valid Tryz.prog 188 (unCon true false true false):=by
 refine valid_intro (ts:=[10]) (unCon true false true false) Tryz.func188 rfl rfl rfl (by decide) (fun _=>Nat.le_of_ble_eq_true rfl) ?_
 rintro (n:Nod) - nm nx
 ((conv=>whnf);repeat'((first|refine zo T rfl ?_|refine zl ?_);conv=>whnf))
 (repeat'((first|refine zo T rfl ?_|refine zl ?_|refine zp rfl ?_|refine zq rfl ?_|refine zp rfl ?_|refine zq rfl ?_);conv=>whnf))
 refine ⟨fun h=>?_,fun h=>?_⟩
 rotate_left
 ·(repeat'((first|refine zo T rfl ?_|refine zl ?_|refine zp h ?_|refine zq h ?_|refine zp rfl ?_|refine zq rfl ?_);conv=>whnf))
  have h:cond (!true) true (n.b == 0) = false:=h
  refine W_ret ⟨.inr rfl,xV (congrArg Value.bool ?_)⟩
  show false = unF true false true false n
  unfold unF
  rw [h]
  rfl
 (repeat'((first|refine zo T rfl ?_|refine zl ?_|refine zp h ?_|refine zq h ?_|refine zp rfl ?_|refine zq rfl ?_);conv=>whnf))
 refine ⟨fun h=>?_,fun h=>?_⟩
 rotate_left
 ·(repeat'((first|refine zo T rfl ?_|refine zl ?_|refine zp h ?_|refine zq h ?_|refine zp rfl ?_|refine zq rfl ?_);conv=>whnf))
  have h:cond (cond (!true) true (n.b == 0)) (cond (!false) true (n.k == 0)) false = false:=h
  refine W_ret ⟨.inr rfl,xV (congrArg Value.bool ?_)⟩
  show false = unF true false true false n
  unfold unF
  rw [h]
  rfl
 (repeat'((first|refine zo T rfl ?_|refine zl ?_|refine zp h ?_|refine zq h ?_|refine zp rfl ?_|refine zq rfl ?_);conv=>whnf))
 refine ⟨fun h=>?_,fun h=>?_⟩
 rotate_left
 ·(repeat'((first|refine zo T rfl ?_|refine zl ?_|refine zp h ?_|refine zq h ?_|refine zp rfl ?_|refine zq rfl ?_);conv=>whnf))
  have h:cond (cond (cond (!true) true (n.b == 0)) (cond (!false) true (n.k == 0)) false) (cond (!true) true (n.s == 0)) false = false:=h
  refine W_ret ⟨.inr rfl,xV (congrArg Value.bool ?_)⟩
  show false = unF true false true false n
  unfold unF
  rw [h]
  rfl
 (repeat'((first|refine zo T rfl ?_|refine zl ?_|refine zp h ?_|refine zq h ?_|refine zp rfl ?_|refine zq rfl ?_);conv=>whnf))
 exact W_ret ⟨.inr rfl,xV rfl⟩
theorem unTFTT_valid:Valid Tryz.prog 188 (unCon true false true true):=by
 refine valid_intro (ts:=[10]) (unCon true false true true) Tryz.func188 rfl rfl rfl (by decide) (fun _=>Nat.le_of_ble_eq_true rfl) ?_
 rintro (n:Nod) - nm nx
 ((conv=>whnf);repeat'((first|refine zo T rfl ?_|refine zl ?_);conv=>whnf))
 (repeat'((first|refine zo T rfl ?_|refine zl ?_|refine zp rfl ?_|refine zq rfl ?_|refine zp rfl ?_|refine zq rfl ?_);conv=>whnf))
 refine ⟨fun h=>?_,fun h=>?_⟩
 rotate_left
 ·(repeat'((first|refine zo T rfl ?_|refine zl ?_|refine zp h ?_|refine zq h ?_|refine zp rfl ?_|refine zq rfl ?_);conv=>whnf))
  have h:cond (!true) true (n.b == 0) = false:=h
  refine W_ret ⟨.inr rfl,xV (congrArg Value.bool ?_)⟩
  show false = unF true false true true n
  unfold unF
  rw [h]
  rfl
 (repeat'((first|refine zo T rfl ?_|refine zl ?_|refine zp h ?_|refine zq h ?_|refine zp rfl ?_|refine zq rfl ?_);conv=>whnf))
 refine ⟨fun h=>?_,fun h=>?_⟩
 rotate_left
 ·(repeat'((first|refine zo T rfl ?_|refine zl ?_|refine zp h ?_|refine zq h ?_|refine zp rfl ?_|refine zq rfl ?_);conv=>whnf))
  have h:cond (cond (!true) true (n.b == 0)) (cond (!false) true (n.k == 0)) false = false:=h
  refine W_ret ⟨.inr rfl,xV (congrArg Value.bool ?_)⟩
  show false = unF true false true true n
  unfold unF
  rw [h]
  rfl
 (repeat'((first|refine zo T rfl ?_|refine zl ?_|refine zp h ?_|refine zq h ?_|refine zp rfl ?_|refine zq rfl ?_);conv=>whnf))
 refine ⟨fun h=>?_,fun h=>?_⟩
 rotate_left
 ·(repeat'((first|refine zo T rfl ?_|refine zl ?_|refine zp h ?_|refine zq h ?_|refine zp rfl ?_|refine zq rfl ?_);conv=>whnf))
  have h:cond (cond (cond (!true) true (n.b == 0)) (cond (!false) true (n.k == 0)) false) (cond (!true) true (n.s == 0)) false = false:=h
  refine W_ret ⟨.inr rfl,xV (congrArg Value.bool ?_)⟩
  show false = unF true false true true n
  unfold unF
  rw [h]
  rfl
 (repeat'((first|refine zo T rfl ?_|refine zl ?_|refine zp h ?_|refine zq h ?_|refine zp rfl ?_|refine zq rfl ?_);conv=>whnf))
 exact W_ret ⟨.inr rfl,xV rfl⟩
theorem unTTTF_valid:Valid Tryz.prog 188 (unCon true true true false):=by
 refine valid_intro (ts:=[10]) (unCon true true true false) Tryz.func188 rfl rfl rfl (by decide) (fun _=>Nat.le_of_ble_eq_true rfl) ?_
 rintro (n:Nod) - nm nx
 ((conv=>whnf);repeat'((first|refine zo T rfl ?_|refine zl ?_);conv=>whnf))
 (repeat'((first|refine zo T rfl ?_|refine zl ?_|refine zp rfl ?_|refine zq rfl ?_|refine zp rfl ?_|refine zq rfl ?_);conv=>whnf))
 refine ⟨fun h=>?_,fun h=>?_⟩
 rotate_left
 ·(repeat'((first|refine zo T rfl ?_|refine zl ?_|refine zp h ?_|refine zq h ?_|refine zp rfl ?_|refine zq rfl ?_);conv=>whnf))
  have h:cond (!true) true (n.b == 0) = false:=h
  refine W_ret ⟨.inr rfl,xV (congrArg Value.bool ?_)⟩
  show false = unF true true true false n
  unfold unF
  rw [h]
  rfl
 (repeat'((first|refine zo T rfl ?_|refine zl ?_|refine zp h ?_|refine zq h ?_|refine zp rfl ?_|refine zq rfl ?_);conv=>whnf))
 refine ⟨fun h=>?_,fun h=>?_⟩
 rotate_left
 ·(repeat'((first|refine zo T rfl ?_|refine zl ?_|refine zp h ?_|refine zq h ?_|refine zp rfl ?_|refine zq rfl ?_);conv=>whnf))
  have h:cond (cond (!true) true (n.b == 0)) (cond (!true) true (n.k == 0)) false = false:=h
  refine W_ret ⟨.inr rfl,xV (congrArg Value.bool ?_)⟩
  show false = unF true true true false n
  unfold unF
  rw [h]
  rfl
 (repeat'((first|refine zo T rfl ?_|refine zl ?_|refine zp h ?_|refine zq h ?_|refine zp rfl ?_|refine zq rfl ?_);conv=>whnf))
 refine ⟨fun h=>?_,fun h=>?_⟩
 rotate_left
 ·(repeat'((first|refine zo T rfl ?_|refine zl ?_|refine zp h ?_|refine zq h ?_|refine zp rfl ?_|refine zq rfl ?_);conv=>whnf))
  have h:cond (cond (cond (!true) true (n.b == 0)) (cond (!true) true (n.k == 0)) false) (cond (!true) true (n.s == 0)) false = false:=h
  refine W_ret ⟨.inr rfl,xV (congrArg Value.bool ?_)⟩
  show false = unF true true true false n
  unfold unF
  rw [h]
  rfl
 (repeat'((first|refine zo T rfl ?_|refine zl ?_|refine zp h ?_|refine zq h ?_|refine zp rfl ?_|refine zq rfl ?_);conv=>whnf))
 exact W_ret ⟨.inr rfl,xV rfl⟩
theorem unTTTT_valid:Valid Tryz.prog 188 (unCon true true true true):=by
 refine valid_intro (ts:=[10]) (unCon true true true true) Tryz.func188 rfl rfl rfl (by decide) (fun _=>Nat.le_of_ble_eq_true rfl) ?_
 rintro (n:Nod) - nm nx
 ((conv=>whnf);repeat'((first|refine zo T rfl ?_|refine zl ?_);conv=>whnf))
 (repeat'((first|refine zo T rfl ?_|refine zl ?_|refine zp rfl ?_|refine zq rfl ?_|refine zp rfl ?_|refine zq rfl ?_);conv=>whnf))
 refine ⟨fun h=>?_,fun h=>?_⟩
 rotate_left
 ·(repeat'((first|refine zo T rfl ?_|refine zl ?_|refine zp h ?_|refine zq h ?_|refine zp rfl ?_|refine zq rfl ?_);conv=>whnf))
  have h:cond (!true) true (n.b == 0) = false:=h
  refine W_ret ⟨.inr rfl,xV (congrArg Value.bool ?_)⟩
  show false = unF true true true true n
  unfold unF
  rw [h]
  rfl
 (repeat'((first|refine zo T rfl ?_|refine zl ?_|refine zp h ?_|refine zq h ?_|refine zp rfl ?_|refine zq rfl ?_);conv=>whnf))
 refine ⟨fun h=>?_,fun h=>?_⟩
 rotate_left
 ·(repeat'((first|refine zo T rfl ?_|refine zl ?_|refine zp h ?_|refine zq h ?_|refine zp rfl ?_|refine zq rfl ?_);conv=>whnf))
  have h:cond (cond (!true) true (n.b == 0)) (cond (!true) true (n.k == 0)) false = false:=h
  refine W_ret ⟨.inr rfl,xV (congrArg Value.bool ?_)⟩
  show false = unF true true true true n
  unfold unF
  rw [h]
  rfl
 (repeat'((first|refine zo T rfl ?_|refine zl ?_|refine zp h ?_|refine zq h ?_|refine zp rfl ?_|refine zq rfl ?_);conv=>whnf))
 refine ⟨fun h=>?_,fun h=>?_⟩
 rotate_left
 ·(repeat'((first|refine zo T rfl ?_|refine zl ?_|refine zp h ?_|refine zq h ?_|refine zp rfl ?_|refine zq rfl ?_);conv=>whnf))
  have h:cond (cond (cond (!true) true (n.b == 0)) (cond (!true) true (n.k == 0)) false) (cond (!true) true (n.s == 0)) false = false:=h
  refine W_ret ⟨.inr rfl,xV (congrArg Value.bool ?_)⟩
  show false = unF true true true true n
  unfold unF
  rw [h]
  rfl
 (repeat'((first|refine zo T rfl ?_|refine zl ?_|refine zp h ?_|refine zq h ?_|refine zp rfl ?_|refine zq rfl ?_);conv=>whnf))
 exact W_ret ⟨.inr rfl,xV rfl⟩
def dimCon:Con:=⟨Int,fun k=>[(false,[.v (.int .i64 k)])],fun _=>True,fun _ k=>bl (cond (decide (1 ≤ k)) (decide (k ≤ 1000)) false),true⟩
theorem dimOK_valid:Valid Tryz.prog 38 dimCon:=by
 refine valid_intro (ts:=[2]) dimCon Tryz.func38 rfl rfl rfl (by decide) (fun _=>Nat.le_of_ble_eq_true rfl) ?_
 rintro (k:Int) - nm nx
 ((conv=>whnf);repeat'((first|refine zo T rfl ?_|refine zl ?_);conv=>whnf))
 refine ⟨fun h=>?_,fun h=>?_⟩
 ·(repeat'((first|refine zo T rfl ?_|refine zl ?_|refine zp h ?_|refine zq h ?_|refine zp rfl ?_|refine zq rfl ?_);conv=>whnf))
  exact W_ret ⟨.inr rfl,xV rfl⟩
 ·(repeat'((first|refine zo T rfl ?_|refine zl ?_|refine zp h ?_|refine zq h ?_|refine zp rfl ?_|refine zq rfl ?_);conv=>whnf))
  have h:decide (1 ≤ k) = false:=h
  refine W_ret ⟨.inr rfl,xV (congrArg Value.bool ?_)⟩
  show false = cond (decide (1 ≤ k)) (decide (k ≤ 1000)) false
  rw [h]
  rfl
def mfCon (rok:RtD → Bool) (o:Int):Con:=⟨Nod,fun n=>[(true,rowN n)],fun n=>LsOk n.v ∧ n.op = o,fun _ n=>bl (decide (FormOk rok n)),true⟩
theorem dense_form {rok:RtD → Bool} (hr:Valid Tryz.prog 71 (rokCon rok)):Valid Tryz.prog 189 (mfCon rok 1):=by
 refine valid_intro (ts:=[2]) (mfCon rok 1) Tryz.func189 rfl rfl rfl (by decide) (fun _=>Nat.le_of_ble_eq_true rfl) ?_
 rintro ⟨op,a,b,k,s,v⟩ ⟨(hp:LsOk v),(ho:op = 1)⟩ nm nx
 subst ho
 have hl:(v.map rowR).length = v.length:=List.length_map ..
 ((conv=>whnf);repeat'((first|refine zo T rfl ?_|refine zl ?_);conv=>whnf))
 refine .inl ⟨unCon true false true false,⟨1,a,b,k,s,v⟩,unTFTF_valid,trivial,.cons (.same _ _) (.cons (.same _ _) (.cons (.same _ _) (.cons (.same _ _) (.cons (.same _ _) .nil)))),?_⟩
 ((conv=>whnf);repeat'((first|refine zo T rfl ?_|refine zl ?_);conv=>whnf))
 refine ⟨fun h=>?_,fun h=>?_⟩
 rotate_left
 ·(repeat'((first|refine zo T rfl ?_|refine zl ?_|refine zp h ?_|refine zq h ?_|refine zp rfl ?_|refine zq rfl ?_);conv=>whnf))
  have h:(unF true false true false ⟨1,a,b,k,s,v⟩) = false:=h
  refine W_ret ⟨.inr rfl,xV (bEq ?_)⟩
  show false = true ↔ FormOk rok ⟨1,a,b,k,s,v⟩
  rw [form1]
  revert h
  clear hp hr
  cases v.all rok <;> unfold unF <;> simp only [hl] <;> clear hl <;> generalize v.length = m <;> simp <;> omega
 (repeat'((first|refine zo T rfl ?_|refine zl ?_|refine zp h ?_|refine zq h ?_|refine zp rfl ?_|refine zq rfl ?_);conv=>whnf))
 refine .inl ⟨dimCon,k,dimOK_valid,trivial,.cons (.same _ _) .nil,?_⟩
 (repeat'((first|refine zo T rfl ?_|refine zl ?_|refine zp h ?_|refine zq h ?_|refine zp rfl ?_|refine zq rfl ?_);conv=>whnf))
 refine ⟨fun h=>?_,fun h=>?_⟩
 rotate_left
 ·(repeat'((first|refine zo T rfl ?_|refine zl ?_|refine zp h ?_|refine zq h ?_|refine zp rfl ?_|refine zq rfl ?_);conv=>whnf))
  have h:(cond (unF true false true false ⟨1,a,b,k,s,v⟩) (cond (decide (1 ≤ k)) (decide (k ≤ 1000)) false) false) = false:=h
  refine W_ret ⟨.inr rfl,xV (bEq ?_)⟩
  show false = true ↔ FormOk rok ⟨1,a,b,k,s,v⟩
  rw [form1]
  revert h
  clear hp hr
  cases v.all rok <;> unfold unF <;> simp only [hl] <;> clear hl <;> generalize v.length = m <;> simp <;> omega
 (repeat'((first|refine zo T rfl ?_|refine zl ?_|refine zp h ?_|refine zq h ?_|refine zp rfl ?_|refine zq rfl ?_);conv=>whnf))
 refine .inl ⟨allCon rok,v,ok_valid hr,hp,.cons (.same _ _) .nil,?_⟩
 (repeat'((first|refine zo T rfl ?_|refine zl ?_|refine zp h ?_|refine zq h ?_|refine zp rfl ?_|refine zq rfl ?_);conv=>whnf))
 refine W_ret ⟨.inr rfl,xV (bEq ?_)⟩
 show (cond (cond (unF true false true false ⟨1,a,b,k,s,v⟩) (cond (decide (1 ≤ k)) (decide (k ≤ 1000)) false) false) (v.all rok) false) = true ↔ FormOk rok ⟨1,a,b,k,s,v⟩
 rw [form1]
 clear hp hr
 cases v.all rok <;> unfold unF <;> simp only [hl] <;> clear hl <;> generalize v.length = m <;> simp <;> omega
theorem relu_form {rok:RtD → Bool} (hr:Valid Tryz.prog 71 (rokCon rok)):Valid Tryz.prog 193 (mfCon rok 2):=by
 refine valid_intro (ts:=[2]) (mfCon rok 2) Tryz.func193 rfl rfl rfl (by decide) (fun _=>Nat.le_of_ble_eq_true rfl) ?_
 rintro ⟨op,a,b,k,s,v⟩ ⟨(hp:LsOk v),(ho:op = 2)⟩ nm nx
 subst ho
 have hl:(v.map rowR).length = v.length:=List.length_map ..
 ((conv=>whnf);repeat'((first|refine zo T rfl ?_|refine zl ?_);conv=>whnf))
 refine .inl ⟨unCon true true true true,⟨2,a,b,k,s,v⟩,unTTTT_valid,trivial,.cons (.same _ _) (.cons (.same _ _) (.cons (.same _ _) (.cons (.same _ _) (.cons (.same _ _) .nil)))),?_⟩
 ((conv=>whnf);repeat'((first|refine zo T rfl ?_|refine zl ?_);conv=>whnf))
 refine W_ret ⟨.inr rfl,xV (bEq ?_)⟩
 show (unF true true true true ⟨2,a,b,k,s,v⟩) = true ↔ FormOk rok ⟨2,a,b,k,s,v⟩
 rw [form2]
 clear hp hr
 unfold unF <;> simp only [hl] <;> clear hl <;> generalize v.length = m <;> simp <;> omega
theorem leaky_form {rok:RtD → Bool} (hr:Valid Tryz.prog 71 (rokCon rok)):Valid Tryz.prog 195 (mfCon rok 3):=by
 refine valid_intro (ts:=[2]) (mfCon rok 3) Tryz.func195 rfl rfl rfl (by decide) (fun _=>Nat.le_of_ble_eq_true rfl) ?_
 rintro ⟨op,a,b,k,s,v⟩ ⟨(hp:LsOk v),(ho:op = 3)⟩ nm nx
 subst ho
 have hl:(v.map rowR).length = v.length:=List.length_map ..
 ((conv=>whnf);repeat'((first|refine zo T rfl ?_|refine zl ?_);conv=>whnf))
 refine .inl ⟨unCon true true true false,⟨3,a,b,k,s,v⟩,unTTTF_valid,trivial,.cons (.same _ _) (.cons (.same _ _) (.cons (.same _ _) (.cons (.same _ _) (.cons (.same _ _) .nil)))),?_⟩
 ((conv=>whnf);repeat'((first|refine zo T rfl ?_|refine zl ?_);conv=>whnf))
 refine ⟨fun h=>?_,fun h=>?_⟩
 rotate_left
 ·(repeat'((first|refine zo T rfl ?_|refine zl ?_|refine zp h ?_|refine zq h ?_|refine zp rfl ?_|refine zq rfl ?_);conv=>whnf))
  have h:(unF true true true false ⟨3,a,b,k,s,v⟩) = false:=h
  refine W_ret ⟨.inr rfl,xV (bEq ?_)⟩
  show false = true ↔ FormOk rok ⟨3,a,b,k,s,v⟩
  rw [form3]
  revert h
  clear hp hr
  cases v.all rok <;> unfold unF <;> simp only [hl] <;> clear hl <;> generalize v.length = m <;> simp <;> omega
 (repeat'((first|refine zo T rfl ?_|refine zl ?_|refine zp h ?_|refine zq h ?_|refine zp rfl ?_|refine zq rfl ?_);conv=>whnf))
 refine ⟨fun h=>?_,fun h=>?_⟩
 rotate_left
 ·(repeat'((first|refine zo T rfl ?_|refine zl ?_|refine zp h ?_|refine zq h ?_|refine zp rfl ?_|refine zq rfl ?_);conv=>whnf))
  have h:(cond (unF true true true false ⟨3,a,b,k,s,v⟩) (((v.map rowR).length:Int) == 1) false) = false:=h
  refine W_ret ⟨.inr rfl,xV (bEq ?_)⟩
  show false = true ↔ FormOk rok ⟨3,a,b,k,s,v⟩
  rw [form3]
  revert h
  clear hp hr
  cases v.all rok <;> unfold unF <;> simp only [hl] <;> clear hl <;> generalize v.length = m <;> simp <;> omega
 (repeat'((first|refine zo T rfl ?_|refine zl ?_|refine zp h ?_|refine zq h ?_|refine zp rfl ?_|refine zq rfl ?_);conv=>whnf))
 refine .inl ⟨allCon rok,v,ok_valid hr,hp,.cons (.same _ _) .nil,?_⟩
 (repeat'((first|refine zo T rfl ?_|refine zl ?_|refine zp h ?_|refine zq h ?_|refine zp rfl ?_|refine zq rfl ?_);conv=>whnf))
 refine W_ret ⟨.inr rfl,xV (bEq ?_)⟩
 show (cond (cond (unF true true true false ⟨3,a,b,k,s,v⟩) (((v.map rowR).length:Int) == 1) false) (v.all rok) false) = true ↔ FormOk rok ⟨3,a,b,k,s,v⟩
 rw [form3]
 clear hp hr
 cases v.all rok <;> unfold unF <;> simp only [hl] <;> clear hl <;> generalize v.length = m <;> simp <;> omega
theorem add_form {rok:RtD → Bool} (hr:Valid Tryz.prog 71 (rokCon rok)):Valid Tryz.prog 198 (mfCon rok 4):=by
 refine valid_intro (ts:=[2]) (mfCon rok 4) Tryz.func198 rfl rfl rfl (by decide) (fun _=>Nat.le_of_ble_eq_true rfl) ?_
 rintro ⟨op,a,b,k,s,v⟩ ⟨(hp:LsOk v),(ho:op = 4)⟩ nm nx
 subst ho
 have hl:(v.map rowR).length = v.length:=List.length_map ..
 ((conv=>whnf);repeat'((first|refine zo T rfl ?_|refine zl ?_);conv=>whnf))
 refine .inl ⟨unCon false true true true,⟨4,a,b,k,s,v⟩,unFTTT_valid,trivial,.cons (.same _ _) (.cons (.same _ _) (.cons (.same _ _) (.cons (.same _ _) (.cons (.same _ _) .nil)))),?_⟩
 ((conv=>whnf);repeat'((first|refine zo T rfl ?_|refine zl ?_);conv=>whnf))
 refine W_ret ⟨.inr rfl,xV (bEq ?_)⟩
 show (unF false true true true ⟨4,a,b,k,s,v⟩) = true ↔ FormOk rok ⟨4,a,b,k,s,v⟩
 rw [form4]
 clear hp hr
 unfold unF <;> simp only [hl] <;> clear hl <;> generalize v.length = m <;> simp <;> omega
theorem pool_form {rok:RtD → Bool} (hr:Valid Tryz.prog 71 (rokCon rok)):Valid Tryz.prog 202 (mfCon rok 5):=by
 refine valid_intro (ts:=[2]) (mfCon rok 5) Tryz.func202 rfl rfl rfl (by decide) (fun _=>Nat.le_of_ble_eq_true rfl) ?_
 rintro ⟨op,a,b,k,s,v⟩ ⟨(hp:LsOk v),(ho:op = 5)⟩ nm nx
 subst ho
 have hl:(v.map rowR).length = v.length:=List.length_map ..
 ((conv=>whnf);repeat'((first|refine zo T rfl ?_|refine zl ?_);conv=>whnf))
 refine .inl ⟨unCon true false true true,⟨5,a,b,k,s,v⟩,unTFTT_valid,trivial,.cons (.same _ _) (.cons (.same _ _) (.cons (.same _ _) (.cons (.same _ _) (.cons (.same _ _) .nil)))),?_⟩
 ((conv=>whnf);repeat'((first|refine zo T rfl ?_|refine zl ?_);conv=>whnf))
 refine ⟨fun h=>?_,fun h=>?_⟩
 rotate_left
 ·(repeat'((first|refine zo T rfl ?_|refine zl ?_|refine zp h ?_|refine zq h ?_|refine zp rfl ?_|refine zq rfl ?_);conv=>whnf))
  have h:(unF true false true true ⟨5,a,b,k,s,v⟩) = false:=h
  refine W_ret ⟨.inr rfl,xV (bEq ?_)⟩
  show false = true ↔ FormOk rok ⟨5,a,b,k,s,v⟩
  rw [form5]
  revert h
  clear hp hr
  unfold unF <;> simp only [hl] <;> clear hl <;> generalize v.length = m <;> simp <;> omega
 (repeat'((first|refine zo T rfl ?_|refine zl ?_|refine zp h ?_|refine zq h ?_|refine zp rfl ?_|refine zq rfl ?_);conv=>whnf))
 refine .inl ⟨dimCon,k,dimOK_valid,trivial,.cons (.same _ _) .nil,?_⟩
 (repeat'((first|refine zo T rfl ?_|refine zl ?_|refine zp h ?_|refine zq h ?_|refine zp rfl ?_|refine zq rfl ?_);conv=>whnf))
 refine W_ret ⟨.inr rfl,xV (bEq ?_)⟩
 show (cond (unF true false true true ⟨5,a,b,k,s,v⟩) (cond (decide (1 ≤ k)) (decide (k ≤ 1000)) false) false) = true ↔ FormOk rok ⟨5,a,b,k,s,v⟩
 rw [form5]
 clear hp hr
 unfold unF <;> simp only [hl] <;> clear hl <;> generalize v.length = m <;> simp <;> omega
theorem conv_form {rok:RtD → Bool} (hr:Valid Tryz.prog 71 (rokCon rok)):Valid Tryz.prog 205 (mfCon rok 6):=by
 refine valid_intro (ts:=[2]) (mfCon rok 6) Tryz.func205 rfl rfl rfl (by decide) (fun _=>Nat.le_of_ble_eq_true rfl) ?_
 rintro ⟨op,a,b,k,s,v⟩ ⟨(hp:LsOk v),(ho:op = 6)⟩ nm nx
 subst ho
 have hl:(v.map rowR).length = v.length:=List.length_map ..
 ((conv=>whnf);repeat'((first|refine zo T rfl ?_|refine zl ?_);conv=>whnf))
 refine .inl ⟨unCon true false false false,⟨6,a,b,k,s,v⟩,unTFFF_valid,trivial,.cons (.same _ _) (.cons (.same _ _) (.cons (.same _ _) (.cons (.same _ _) (.cons (.same _ _) .nil)))),?_⟩
 ((conv=>whnf);repeat'((first|refine zo T rfl ?_|refine zl ?_);conv=>whnf))
 refine ⟨fun h=>?_,fun h=>?_⟩
 rotate_left
 ·(repeat'((first|refine zo T rfl ?_|refine zl ?_|refine zp h ?_|refine zq h ?_|refine zp rfl ?_|refine zq rfl ?_);conv=>whnf))
  have h:(unF true false false false ⟨6,a,b,k,s,v⟩) = false:=h
  refine W_ret ⟨.inr rfl,xV (bEq ?_)⟩
  show false = true ↔ FormOk rok ⟨6,a,b,k,s,v⟩
  rw [form6]
  revert h
  clear hp hr
  cases v.all rok <;> unfold unF <;> simp only [hl] <;> clear hl <;> generalize v.length = m <;> simp <;> omega
 (repeat'((first|refine zo T rfl ?_|refine zl ?_|refine zp h ?_|refine zq h ?_|refine zp rfl ?_|refine zq rfl ?_);conv=>whnf))
 refine .inl ⟨dimCon,k,dimOK_valid,trivial,.cons (.same _ _) .nil,?_⟩
 (repeat'((first|refine zo T rfl ?_|refine zl ?_|refine zp h ?_|refine zq h ?_|refine zp rfl ?_|refine zq rfl ?_);conv=>whnf))
 refine ⟨fun h=>?_,fun h=>?_⟩
 rotate_left
 ·(repeat'((first|refine zo T rfl ?_|refine zl ?_|refine zp h ?_|refine zq h ?_|refine zp rfl ?_|refine zq rfl ?_);conv=>whnf))
  have h:(cond (unF true false false false ⟨6,a,b,k,s,v⟩) (cond (decide (1 ≤ k)) (decide (k ≤ 1000)) false) false) = false:=h
  refine W_ret ⟨.inr rfl,xV (bEq ?_)⟩
  show false = true ↔ FormOk rok ⟨6,a,b,k,s,v⟩
  rw [form6]
  revert h
  clear hp hr
  cases v.all rok <;> unfold unF <;> simp only [hl] <;> clear hl <;> generalize v.length = m <;> simp <;> omega
 (repeat'((first|refine zo T rfl ?_|refine zl ?_|refine zp h ?_|refine zq h ?_|refine zp rfl ?_|refine zq rfl ?_);conv=>whnf))
 refine .inl ⟨dimCon,s,dimOK_valid,trivial,.cons (.same _ _) .nil,?_⟩
 (repeat'((first|refine zo T rfl ?_|refine zl ?_|refine zp h ?_|refine zq h ?_|refine zp rfl ?_|refine zq rfl ?_);conv=>whnf))
 refine ⟨fun h=>?_,fun h=>?_⟩
 rotate_left
 ·(repeat'((first|refine zo T rfl ?_|refine zl ?_|refine zp h ?_|refine zq h ?_|refine zp rfl ?_|refine zq rfl ?_);conv=>whnf))
  have h:(cond (cond (unF true false false false ⟨6,a,b,k,s,v⟩) (cond (decide (1 ≤ k)) (decide (k ≤ 1000)) false) false) (cond (decide (1 ≤ s)) (decide (s ≤ 1000)) false) false) = false:=h
  refine W_ret ⟨.inr rfl,xV (bEq ?_)⟩
  show false = true ↔ FormOk rok ⟨6,a,b,k,s,v⟩
  rw [form6]
  revert h
  clear hp hr
  cases v.all rok <;> unfold unF <;> simp only [hl] <;> clear hl <;> generalize v.length = m <;> simp <;> omega
 (repeat'((first|refine zo T rfl ?_|refine zl ?_|refine zp h ?_|refine zq h ?_|refine zp rfl ?_|refine zq rfl ?_);conv=>whnf))
 refine .inl ⟨allCon rok,v,ok_valid hr,hp,.cons (.same _ _) .nil,?_⟩
 (repeat'((first|refine zo T rfl ?_|refine zl ?_|refine zp h ?_|refine zq h ?_|refine zp rfl ?_|refine zq rfl ?_);conv=>whnf))
 refine W_ret ⟨.inr rfl,xV (bEq ?_)⟩
 show (cond (cond (cond (unF true false false false ⟨6,a,b,k,s,v⟩) (cond (decide (1 ≤ k)) (decide (k ≤ 1000)) false) false) (cond (decide (1 ≤ s)) (decide (s ≤ 1000)) false) false) (v.all rok) false) = true ↔ FormOk rok ⟨6,a,b,k,s,v⟩
 rw [form6]
 clear hp hr
 cases v.all rok <;> unfold unF <;> simp only [hl] <;> clear hl <;> generalize v.length = m <;> simp <;> omega
theorem norm_form {rok:RtD → Bool} (hr:Valid Tryz.prog 71 (rokCon rok)):Valid Tryz.prog 208 (mfCon rok 7):=by
 refine valid_intro (ts:=[2]) (mfCon rok 7) Tryz.func208 rfl rfl rfl (by decide) (fun _=>Nat.le_of_ble_eq_true rfl) ?_
 rintro ⟨op,a,b,k,s,v⟩ ⟨(hp:LsOk v),(ho:op = 7)⟩ nm nx
 subst ho
 have hl:(v.map rowR).length = v.length:=List.length_map ..
 ((conv=>whnf);repeat'((first|refine zo T rfl ?_|refine zl ?_);conv=>whnf))
 refine .inl ⟨unCon true true true false,⟨7,a,b,k,s,v⟩,unTTTF_valid,trivial,.cons (.same _ _) (.cons (.same _ _) (.cons (.same _ _) (.cons (.same _ _) (.cons (.same _ _) .nil)))),?_⟩
 ((conv=>whnf);repeat'((first|refine zo T rfl ?_|refine zl ?_);conv=>whnf))
 refine ⟨fun h=>?_,fun h=>?_⟩
 rotate_left
 ·(repeat'((first|refine zo T rfl ?_|refine zl ?_|refine zp h ?_|refine zq h ?_|refine zp rfl ?_|refine zq rfl ?_);conv=>whnf))
  have h:(unF true true true false ⟨7,a,b,k,s,v⟩) = false:=h
  refine W_ret ⟨.inr rfl,xV (bEq ?_)⟩
  show false = true ↔ FormOk rok ⟨7,a,b,k,s,v⟩
  rw [form7]
  revert h
  clear hp hr
  cases v.all rok <;> unfold unF <;> simp only [hl] <;> clear hl <;> generalize v.length = m <;> simp <;> omega
 (repeat'((first|refine zo T rfl ?_|refine zl ?_|refine zp h ?_|refine zq h ?_|refine zp rfl ?_|refine zq rfl ?_);conv=>whnf))
 refine ⟨fun h=>?_,fun h=>?_⟩
 rotate_left
 ·(repeat'((first|refine zo T rfl ?_|refine zl ?_|refine zp h ?_|refine zq h ?_|refine zp rfl ?_|refine zq rfl ?_);conv=>whnf))
  have h:(cond (unF true true true false ⟨7,a,b,k,s,v⟩) (((v.map rowR).length:Int) == 4) false) = false:=h
  refine W_ret ⟨.inr rfl,xV (bEq ?_)⟩
  show false = true ↔ FormOk rok ⟨7,a,b,k,s,v⟩
  rw [form7]
  revert h
  clear hp hr
  cases v.all rok <;> unfold unF <;> simp only [hl] <;> clear hl <;> generalize v.length = m <;> simp <;> omega
 (repeat'((first|refine zo T rfl ?_|refine zl ?_|refine zp h ?_|refine zq h ?_|refine zp rfl ?_|refine zq rfl ?_);conv=>whnf))
 refine .inl ⟨allCon rok,v,ok_valid hr,hp,.cons (.same _ _) .nil,?_⟩
 (repeat'((first|refine zo T rfl ?_|refine zl ?_|refine zp h ?_|refine zq h ?_|refine zp rfl ?_|refine zq rfl ?_);conv=>whnf))
 refine W_ret ⟨.inr rfl,xV (bEq ?_)⟩
 show (cond (cond (unF true true true false ⟨7,a,b,k,s,v⟩) (((v.map rowR).length:Int) == 4) false) (v.all rok) false) = true ↔ FormOk rok ⟨7,a,b,k,s,v⟩
 rw [form7]
 clear hp hr
 cases v.all rok <;> unfold unF <;> simp only [hl] <;> clear hl <;> generalize v.length = m <;> simp <;> omega
def msCon (o:Int):Con:=⟨Nod × Int × Int,fun g=>[(true,rowN g.1),(false,[.v (.int .i64 g.2.1)]),(false,[.v (.int .i64 g.2.2)])],fun g=>(g.1.op = o ∧ (1 ≤ g.2.1 ∧ g.2.1 ≤ 1000)) ∧ (o = 1 → 1 ≤ g.1.k ∧ g.1.k ≤ 1000) ∧ (o = 5 → 1 ≤ g.1.k) ∧ (o = 6 → (1 ≤ g.1.k ∧ g.1.k ≤ 1000) ∧ 1 ≤ g.1.s),fun _ g=>int .i64 (shapeF g.1 g.2.1 g.2.2),true⟩
theorem dense_shape:Valid Tryz.prog 190 (msCon 1):=by
 refine valid_intro (ts:=[6]) (msCon 1) Tryz.func190 rfl rfl rfl (by decide) (fun _=>Nat.le_of_ble_eq_true rfl) ?_
 rintro ⟨⟨op,a,b,k,s,v⟩,d,e⟩ ⟨⟨(ho:op = 1),(hd:1 ≤ d ∧ d ≤ 1000)⟩,h1,h5,h6⟩ nm nx
 subst ho
 have hl:(v.map rowR).length = v.length:=List.length_map ..
 ((conv=>whnf);repeat'((first|refine zo T rfl ?_|refine zl ?_);conv=>whnf))
 have hk:1 ≤ k ∧ k ≤ 1000:=h1 rfl
 have hm:=mul_le (a:=k) (b:=d + 1) (by omega) (by omega)
 refine ⟨by show _ ≤ d + 1 ∧ d + 1 ≤ _;omega,?_⟩
 ((conv=>whnf);repeat'((first|refine zo T rfl ?_|refine zl ?_);conv=>whnf))
 refine ⟨by show _ ≤ k * (d + 1) ∧ k * (d + 1) ≤ _;omega,?_⟩
 ((conv=>whnf);repeat'((first|refine zo T rfl ?_|refine zl ?_);conv=>whnf))
 refine W_cond rfl (fun h=>?_) (fun h=>?_)
 ·have h:=bne_iff_ne.1 (show (((v.map rowR).length:Int) != k * (d + 1)) = true from h)
  ((conv=>whnf);repeat'((first|refine zo T rfl ?_|refine zl ?_);conv=>whnf))
  refine W_ret ⟨.inr rfl,xI ?_⟩
  show 0 = shapeF _ d e
  rw [shape1,if_neg (by omega)]
 ·have h:=bne_eq_false_iff_eq.1 (show (((v.map rowR).length:Int) != k * (d + 1)) = false from h)
  ((conv=>whnf);repeat'((first|refine zo T rfl ?_|refine zl ?_);conv=>whnf))
  refine W_ret ⟨.inr rfl,xI ?_⟩
  show k = shapeF _ d e
  rw [shape1,if_pos (by omega)]
theorem relu_shape:Valid Tryz.prog 194 (msCon 2):=by
 refine valid_intro (ts:=[6]) (msCon 2) Tryz.func194 rfl rfl rfl (by decide) (fun _=>Nat.le_of_ble_eq_true rfl) ?_
 rintro ⟨⟨op,a,b,k,s,v⟩,d,e⟩ ⟨⟨(ho:op = 2),(hd:1 ≤ d ∧ d ≤ 1000)⟩,h1,h5,h6⟩ nm nx
 subst ho
 have hl:(v.map rowR).length = v.length:=List.length_map ..
 ((conv=>whnf);repeat'((first|refine zo T rfl ?_|refine zl ?_);conv=>whnf))
 exact W_ret ⟨.inr rfl,xI rfl⟩
theorem leaky_shape:Valid Tryz.prog 196 (msCon 3):=by
 refine valid_intro (ts:=[6]) (msCon 3) Tryz.func196 rfl rfl rfl (by decide) (fun _=>Nat.le_of_ble_eq_true rfl) ?_
 rintro ⟨⟨op,a,b,k,s,v⟩,d,e⟩ ⟨⟨(ho:op = 3),(hd:1 ≤ d ∧ d ≤ 1000)⟩,h1,h5,h6⟩ nm nx
 subst ho
 have hl:(v.map rowR).length = v.length:=List.length_map ..
 ((conv=>whnf);repeat'((first|refine zo T rfl ?_|refine zl ?_);conv=>whnf))
 exact W_ret ⟨.inr rfl,xI rfl⟩
theorem add_shape:Valid Tryz.prog 199 (msCon 4):=by
 refine valid_intro (ts:=[6]) (msCon 4) Tryz.func199 rfl rfl rfl (by decide) (fun _=>Nat.le_of_ble_eq_true rfl) ?_
 rintro ⟨⟨op,a,b,k,s,v⟩,d,e⟩ ⟨⟨(ho:op = 4),(hd:1 ≤ d ∧ d ≤ 1000)⟩,h1,h5,h6⟩ nm nx
 subst ho
 have hl:(v.map rowR).length = v.length:=List.length_map ..
 ((conv=>whnf);repeat'((first|refine zo T rfl ?_|refine zl ?_);conv=>whnf))
 refine W_cond rfl (fun h=>?_) (fun h=>?_)
 ·have h:=bne_iff_ne.1 (show (d != e) = true from h)
  ((conv=>whnf);repeat'((first|refine zo T rfl ?_|refine zl ?_);conv=>whnf))
  refine W_ret ⟨.inr rfl,xI ?_⟩
  show 0 = shapeF _ d e
  rw [shape4,if_neg h]
 ·have h:=bne_eq_false_iff_eq.1 (show (d != e) = false from h)
  ((conv=>whnf);repeat'((first|refine zo T rfl ?_|refine zl ?_);conv=>whnf))
  refine W_ret ⟨.inr rfl,xI ?_⟩
  show d = shapeF _ d e
  rw [shape4,if_pos h]
theorem pool_shape:Valid Tryz.prog 203 (msCon 5):=by
 refine valid_intro (ts:=[6]) (msCon 5) Tryz.func203 rfl rfl rfl (by decide) (fun _=>Nat.le_of_ble_eq_true rfl) ?_
 rintro ⟨⟨op,a,b,k,s,v⟩,d,e⟩ ⟨⟨(ho:op = 5),(hd:1 ≤ d ∧ d ≤ 1000)⟩,h1,h5,h6⟩ nm nx
 subst ho
 have hl:(v.map rowR).length = v.length:=List.length_map ..
 ((conv=>whnf);repeat'((first|refine zo T rfl ?_|refine zl ?_);conv=>whnf))
 have hk:1 ≤ k:=h5 rfl
 refine ⟨⟨by show 0 ≤ d;omega,by show 0 < k;omega⟩,?_⟩
 ((conv=>whnf);repeat'((first|refine zo T rfl ?_|refine zl ?_);conv=>whnf))
 refine W_cond rfl (fun h=>?_) (fun h=>?_)
 ·have h:=bne_iff_ne.1 (show (d % k != 0) = true from h)
  ((conv=>whnf);repeat'((first|refine zo T rfl ?_|refine zl ?_);conv=>whnf))
  refine W_ret ⟨.inr rfl,xI ?_⟩
  show 0 = shapeF _ d e
  rw [shape5,if_neg h]
 ·have h:=bne_eq_false_iff_eq.1 (show (d % k != 0) = false from h)
  ((conv=>whnf);repeat'((first|refine zo T rfl ?_|refine zl ?_);conv=>whnf))
  refine ⟨⟨by show 0 ≤ d;omega,by show 0 < k;omega,by show d ≤ _;omega⟩,?_⟩
  ((conv=>whnf);repeat'((first|refine zo T rfl ?_|refine zl ?_);conv=>whnf))
  refine W_ret ⟨.inr rfl,xI ?_⟩
  show d / k = shapeF _ d e
  rw [shape5,if_pos h]
theorem conv_shape:Valid Tryz.prog 206 (msCon 6):=by
 refine valid_intro (ts:=[6]) (msCon 6) Tryz.func206 rfl rfl rfl (by decide) (fun _=>Nat.le_of_ble_eq_true rfl) ?_
 rintro ⟨⟨op,a,b,k,s,v⟩,d,e⟩ ⟨⟨(ho:op = 6),(hd:1 ≤ d ∧ d ≤ 1000)⟩,h1,h5,h6⟩ nm nx
 subst ho
 have hl:(v.map rowR).length = v.length:=List.length_map ..
 ((conv=>whnf);repeat'((first|refine zo T rfl ?_|refine zl ?_);conv=>whnf))
 have hk:(1 ≤ k ∧ k ≤ 1000) ∧ 1 ≤ s:=h6 rfl
 refine ⟨fun h=>?_,fun h=>?_⟩
 rotate_left
 ·(repeat'((first|refine zo T rfl ?_|refine zl ?_|refine zp h ?_|refine zq h ?_|refine zp rfl ?_|refine zq rfl ?_);conv=>whnf))
  refine W_cond rfl (fun _=>?_) (fun h=>by cases h)
  have h:=of_decide_eq_true (show decide (k > d) = true from h)
  ((conv=>whnf);repeat'((first|refine zo T rfl ?_|refine zl ?_);conv=>whnf))
  refine W_ret ⟨.inr rfl,xI ?_⟩
  show 0 = shapeF _ d e
  rw [shape6,if_neg (by omega)]
 (repeat'((first|refine zo T rfl ?_|refine zl ?_|refine zp h ?_|refine zq h ?_|refine zp rfl ?_|refine zq rfl ?_);conv=>whnf))
 refine ⟨by show _ ≤ k + 1 ∧ k + 1 ≤ _;omega,?_⟩
 (repeat'((first|refine zo T rfl ?_|refine zl ?_|refine zp h ?_|refine zq h ?_|refine zp rfl ?_|refine zq rfl ?_);conv=>whnf))
 have h:decide (k > d) = false:=h
 refine W_cond rfl (fun h2=>?_) (fun h2=>?_)
 ·have h2:cond (decide (k > d)) true (((v.map rowR).length:Int) != k + 1) = true:=h2
  rw [h] at h2
  have h2:=bne_iff_ne.1 (show (((v.map rowR).length:Int) != k + 1) = true from h2)
  ((conv=>whnf);repeat'((first|refine zo T rfl ?_|refine zl ?_);conv=>whnf))
  refine W_ret ⟨.inr rfl,xI ?_⟩
  show 0 = shapeF _ d e
  rw [shape6,if_neg (by omega)]
 ·have h2:cond (decide (k > d)) true (((v.map rowR).length:Int) != k + 1) = false:=h2
  rw [h] at h2
  have h2:=bne_eq_false_iff_eq.1 (show (((v.map rowR).length:Int) != k + 1) = false from h2)
  have h:=of_decide_eq_false h
  have q1:0 ≤ (d - k) / s:=Int.ediv_nonneg (by omega) (by omega)
  have q2:(d - k) / s ≤ d - k:=Int.ediv_le_self _ (by omega)
  ((conv=>whnf);repeat'((first|refine zo T rfl ?_|refine zl ?_);conv=>whnf))
  refine ⟨by show _ ≤ d - k ∧ d - k ≤ _;omega,?_⟩
  ((conv=>whnf);repeat'((first|refine zo T rfl ?_|refine zl ?_);conv=>whnf))
  refine ⟨⟨by show 0 ≤ d - k;omega,by show 0 < s;omega,by show d - k ≤ _;omega⟩,?_⟩
  ((conv=>whnf);repeat'((first|refine zo T rfl ?_|refine zl ?_);conv=>whnf))
  refine ⟨by show _ ≤ (d - k) / s + 1 ∧ (d - k) / s + 1 ≤ _;omega,?_⟩
  ((conv=>whnf);repeat'((first|refine zo T rfl ?_|refine zl ?_);conv=>whnf))
  refine W_ret ⟨.inr rfl,xI ?_⟩
  show (d - k) / s + 1 = shapeF _ d e
  rw [shape6,if_pos (by omega)]
theorem norm_shape:Valid Tryz.prog 209 (msCon 7):=by
 refine valid_intro (ts:=[6]) (msCon 7) Tryz.func209 rfl rfl rfl (by decide) (fun _=>Nat.le_of_ble_eq_true rfl) ?_
 rintro ⟨⟨op,a,b,k,s,v⟩,d,e⟩ ⟨⟨(ho:op = 7),(hd:1 ≤ d ∧ d ≤ 1000)⟩,h1,h5,h6⟩ nm nx
 subst ho
 have hl:(v.map rowR).length = v.length:=List.length_map ..
 ((conv=>whnf);repeat'((first|refine zo T rfl ?_|refine zl ?_);conv=>whnf))
 exact W_ret ⟨.inr rfl,xI rfl⟩
def srcF (n:Nod):List Int:=if n.op = 4 then [n.a,n.b] else [n.a]
theorem rInts {H:List HB} {b el:Nat} {l:List Int} (hb:H[b]? = some (.p el 1 (l.map iRow))):XLe true H (.one (.o false [.sl b 0 l.length l.length])) (.one (.p false [intsD l])):=by
 refine .one (.o _ _ _ (.cons (.sl _ _ _ _ _ _ _ hb (List.length_map ..) rfl (.inr ?_) rfl) .nil))
 intro r hr x hx
 obtain ⟨y,_,rfl⟩:=List.mem_map.1 hr
 simp at hx
 exact ⟨_,hx⟩
def msrCon (p:Int → Prop):Con:=⟨Nod,fun n=>[(true,rowN n)],fun n=>p n.op,fun _ n=>.one (.p false [intsD (srcF n)]),true⟩
theorem node_src:Valid Tryz.prog 187 (msrCon fun o=>o ≠ 4):=by
 refine valid_intro (ts:=[2]) (msrCon fun o=>o ≠ 4) Tryz.func187 rfl rfl rfl (by decide) (fun _=>Nat.le_of_ble_eq_true rfl) ?_
 rintro (n:Nod) (ho:n.op ≠ 4) nm nx
 have e:(msrCon fun o=>o ≠ 4).res nm n = .one (.p false [intsD [n.a]]):=by show X.one (.p false [intsD (srcF n)]) = _;rw [srcF,if_neg ho]
 rw [e]
 ((conv=>whnf);repeat'((first|refine zo T rfl ?_|refine zl ?_);conv=>whnf))
 exact W_ret ⟨.inr rfl,rInts (l:=[n.a]) rfl⟩
theorem add_src:Valid Tryz.prog 200 (msrCon fun o=>o = 4):=by
 refine valid_intro (ts:=[2]) (msrCon fun o=>o = 4) Tryz.func200 rfl rfl rfl (by decide) (fun _=>Nat.le_of_ble_eq_true rfl) ?_
 rintro (n:Nod) (ho:n.op = 4) nm nx
 have e:(msrCon fun o=>o = 4).res nm n = .one (.p false [intsD [n.a,n.b]]):=by show X.one (.p false [intsD (srcF n)]) = _;rw [srcF,if_pos ho]
 rw [e]
 ((conv=>whnf);repeat'((first|refine zo T rfl ?_|refine zl ?_);conv=>whnf))
 exact W_ret ⟨.inr rfl,rInts (l:=[n.a,n.b]) rfl⟩
def tyF (o:Int):Nat:=if o = 1 then 121 else if o = 2 then 122 else if o = 3 then 123 else if o = 4 then 124 else if o = 5 then 125 else if o = 6 then 126 else 127
def opD (o:Int) (n:Nod):D:=.ic (tyF o) true (rowN n)
def opCon:Con:=⟨Nod,fun n=>[(true,rowN n)],fun n=>1 ≤ n.op ∧ n.op ≤ 7,fun _ n=>.one (.p false [opD n.op n]),false⟩
def opCon0:Con:=⟨Nod,fun n=>[(true,rowN n)],fun n=>¬ (1 ≤ n.op ∧ n.op ≤ 7),fun _ n=>.one (.p false [.v .nilIface]),true⟩
theorem operatorOf_valid:Valid Tryz.prog 41 opCon:=by
 refine valid_intro (ts:=[2]) opCon Tryz.func41 rfl rfl rfl (by decide) (fun _=>Nat.le_of_ble_eq_true rfl) ?_
 rintro ⟨op,a,b,k,s,v⟩ (hp:1 ≤ op ∧ op ≤ 7) nm nx
 rcases (by omega:op = 1 ∨ op = 2 ∨ op = 3 ∨ op = 4 ∨ op = 5 ∨ op = 6 ∨ op = 7) with rfl | rfl | rfl | rfl | rfl | rfl | rfl
 ·((conv=>whnf);repeat'((first|refine zo T rfl ?_|refine zl ?_);conv=>whnf))
  refine W_cond rfl (fun _=>?_) (fun h=>by cases h)
  ((conv=>whnf);repeat'((first|refine zo T rfl ?_|refine zl ?_);conv=>whnf))
  exact W_ret ⟨.inr rfl,.one (.same _ _ _ rfl rfl)⟩
 ·((conv=>whnf);repeat'((first|refine zo T rfl ?_|refine zl ?_);conv=>whnf))
  refine W_cond rfl (fun h=>by cases h) (fun _=>?_)
  ((conv=>whnf);repeat'((first|refine zo T rfl ?_|refine zl ?_);conv=>whnf))
  refine W_cond rfl (fun _=>?_) (fun h=>by cases h)
  ((conv=>whnf);repeat'((first|refine zo T rfl ?_|refine zl ?_);conv=>whnf))
  exact W_ret ⟨.inr rfl,.one (.same _ _ _ rfl rfl)⟩
 ·((conv=>whnf);repeat'((first|refine zo T rfl ?_|refine zl ?_);conv=>whnf))
  refine W_cond rfl (fun h=>by cases h) (fun _=>?_)
  ((conv=>whnf);repeat'((first|refine zo T rfl ?_|refine zl ?_);conv=>whnf))
  refine W_cond rfl (fun h=>by cases h) (fun _=>?_)
  ((conv=>whnf);repeat'((first|refine zo T rfl ?_|refine zl ?_);conv=>whnf))
  refine W_cond rfl (fun _=>?_) (fun h=>by cases h)
  ((conv=>whnf);repeat'((first|refine zo T rfl ?_|refine zl ?_);conv=>whnf))
  exact W_ret ⟨.inr rfl,.one (.same _ _ _ rfl rfl)⟩
 ·((conv=>whnf);repeat'((first|refine zo T rfl ?_|refine zl ?_);conv=>whnf))
  refine W_cond rfl (fun h=>by cases h) (fun _=>?_)
  ((conv=>whnf);repeat'((first|refine zo T rfl ?_|refine zl ?_);conv=>whnf))
  refine W_cond rfl (fun h=>by cases h) (fun _=>?_)
  ((conv=>whnf);repeat'((first|refine zo T rfl ?_|refine zl ?_);conv=>whnf))
  refine W_cond rfl (fun h=>by cases h) (fun _=>?_)
  ((conv=>whnf);repeat'((first|refine zo T rfl ?_|refine zl ?_);conv=>whnf))
  refine W_cond rfl (fun _=>?_) (fun h=>by cases h)
  ((conv=>whnf);repeat'((first|refine zo T rfl ?_|refine zl ?_);conv=>whnf))
  exact W_ret ⟨.inr rfl,.one (.same _ _ _ rfl rfl)⟩
 ·((conv=>whnf);repeat'((first|refine zo T rfl ?_|refine zl ?_);conv=>whnf))
  refine W_cond rfl (fun h=>by cases h) (fun _=>?_)
  ((conv=>whnf);repeat'((first|refine zo T rfl ?_|refine zl ?_);conv=>whnf))
  refine W_cond rfl (fun h=>by cases h) (fun _=>?_)
  ((conv=>whnf);repeat'((first|refine zo T rfl ?_|refine zl ?_);conv=>whnf))
  refine W_cond rfl (fun h=>by cases h) (fun _=>?_)
  ((conv=>whnf);repeat'((first|refine zo T rfl ?_|refine zl ?_);conv=>whnf))
  refine W_cond rfl (fun h=>by cases h) (fun _=>?_)
  ((conv=>whnf);repeat'((first|refine zo T rfl ?_|refine zl ?_);conv=>whnf))
  refine W_cond rfl (fun _=>?_) (fun h=>by cases h)
  ((conv=>whnf);repeat'((first|refine zo T rfl ?_|refine zl ?_);conv=>whnf))
  exact W_ret ⟨.inr rfl,.one (.same _ _ _ rfl rfl)⟩
 ·((conv=>whnf);repeat'((first|refine zo T rfl ?_|refine zl ?_);conv=>whnf))
  refine W_cond rfl (fun h=>by cases h) (fun _=>?_)
  ((conv=>whnf);repeat'((first|refine zo T rfl ?_|refine zl ?_);conv=>whnf))
  refine W_cond rfl (fun h=>by cases h) (fun _=>?_)
  ((conv=>whnf);repeat'((first|refine zo T rfl ?_|refine zl ?_);conv=>whnf))
  refine W_cond rfl (fun h=>by cases h) (fun _=>?_)
  ((conv=>whnf);repeat'((first|refine zo T rfl ?_|refine zl ?_);conv=>whnf))
  refine W_cond rfl (fun h=>by cases h) (fun _=>?_)
  ((conv=>whnf);repeat'((first|refine zo T rfl ?_|refine zl ?_);conv=>whnf))
  refine W_cond rfl (fun h=>by cases h) (fun _=>?_)
  ((conv=>whnf);repeat'((first|refine zo T rfl ?_|refine zl ?_);conv=>whnf))
  refine W_cond rfl (fun _=>?_) (fun h=>by cases h)
  ((conv=>whnf);repeat'((first|refine zo T rfl ?_|refine zl ?_);conv=>whnf))
  exact W_ret ⟨.inr rfl,.one (.same _ _ _ rfl rfl)⟩
 ·((conv=>whnf);repeat'((first|refine zo T rfl ?_|refine zl ?_);conv=>whnf))
  refine W_cond rfl (fun h=>by cases h) (fun _=>?_)
  ((conv=>whnf);repeat'((first|refine zo T rfl ?_|refine zl ?_);conv=>whnf))
  refine W_cond rfl (fun h=>by cases h) (fun _=>?_)
  ((conv=>whnf);repeat'((first|refine zo T rfl ?_|refine zl ?_);conv=>whnf))
  refine W_cond rfl (fun h=>by cases h) (fun _=>?_)
  ((conv=>whnf);repeat'((first|refine zo T rfl ?_|refine zl ?_);conv=>whnf))
  refine W_cond rfl (fun h=>by cases h) (fun _=>?_)
  ((conv=>whnf);repeat'((first|refine zo T rfl ?_|refine zl ?_);conv=>whnf))
  refine W_cond rfl (fun h=>by cases h) (fun _=>?_)
  ((conv=>whnf);repeat'((first|refine zo T rfl ?_|refine zl ?_);conv=>whnf))
  refine W_cond rfl (fun h=>by cases h) (fun _=>?_)
  ((conv=>whnf);repeat'((first|refine zo T rfl ?_|refine zl ?_);conv=>whnf))
  refine W_cond rfl (fun _=>?_) (fun h=>by cases h)
  ((conv=>whnf);repeat'((first|refine zo T rfl ?_|refine zl ?_);conv=>whnf))
  exact W_ret ⟨.inr rfl,.one (.same _ _ _ rfl rfl)⟩
theorem operatorOf_nil:Valid Tryz.prog 41 opCon0:=by
 refine valid_intro (ts:=[2]) opCon0 Tryz.func41 rfl rfl rfl (by decide) (fun _=>Nat.le_of_ble_eq_true rfl) ?_
 rintro (n:Nod) (hp:¬ (1 ≤ n.op ∧ n.op ≤ 7)) nm nx
 ((conv=>whnf);repeat'((first|refine zo T rfl ?_|refine zl ?_);conv=>whnf))
 refine W_cond rfl (fun h=>?_) (fun _=>?_)
 ·have h:=eq_of_beq (show (n.op == 1) = true from h)
  omega
 ((conv=>whnf);repeat'((first|refine zo T rfl ?_|refine zl ?_);conv=>whnf))
 refine W_cond rfl (fun h=>?_) (fun _=>?_)
 ·have h:=eq_of_beq (show (n.op == 2) = true from h)
  omega
 ((conv=>whnf);repeat'((first|refine zo T rfl ?_|refine zl ?_);conv=>whnf))
 refine W_cond rfl (fun h=>?_) (fun _=>?_)
 ·have h:=eq_of_beq (show (n.op == 3) = true from h)
  omega
 ((conv=>whnf);repeat'((first|refine zo T rfl ?_|refine zl ?_);conv=>whnf))
 refine W_cond rfl (fun h=>?_) (fun _=>?_)
 ·have h:=eq_of_beq (show (n.op == 4) = true from h)
  omega
 ((conv=>whnf);repeat'((first|refine zo T rfl ?_|refine zl ?_);conv=>whnf))
 refine W_cond rfl (fun h=>?_) (fun _=>?_)
 ·have h:=eq_of_beq (show (n.op == 5) = true from h)
  omega
 ((conv=>whnf);repeat'((first|refine zo T rfl ?_|refine zl ?_);conv=>whnf))
 refine W_cond rfl (fun h=>?_) (fun _=>?_)
 ·have h:=eq_of_beq (show (n.op == 6) = true from h)
  omega
 ((conv=>whnf);repeat'((first|refine zo T rfl ?_|refine zl ?_);conv=>whnf))
 refine W_cond rfl (fun h=>?_) (fun _=>?_)
 ·have h:=eq_of_beq (show (n.op == 7) = true from h)
  omega
 ((conv=>whnf);repeat'((first|refine zo T rfl ?_|refine zl ?_);conv=>whnf))
 exact W_ret ⟨.inr rfl,xV rfl⟩
theorem dense_formM:MethOk Tryz.prog 121 "loop.example/s0015/impl.form" true 6 189:=by
 intro vs u hl hu w
 match vs,hl with
 | [a,b,c,d,e,f],_ =>
 cases hu
 show _ = _
 kernel_rfl
theorem relu_formM:MethOk Tryz.prog 122 "loop.example/s0015/impl.form" true 6 193:=by
 intro vs u hl hu w
 match vs,hl with
 | [a,b,c,d,e,f],_ =>
 cases hu
 show _ = _
 kernel_rfl
theorem leaky_formM:MethOk Tryz.prog 123 "loop.example/s0015/impl.form" true 6 195:=by
 intro vs u hl hu w
 match vs,hl with
 | [a,b,c,d,e,f],_ =>
 cases hu
 show _ = _
 kernel_rfl
theorem add_formM:MethOk Tryz.prog 124 "loop.example/s0015/impl.form" true 6 198:=by
 intro vs u hl hu w
 match vs,hl with
 | [a,b,c,d,e,f],_ =>
 cases hu
 show _ = _
 kernel_rfl
theorem pool_formM:MethOk Tryz.prog 125 "loop.example/s0015/impl.form" true 6 202:=by
 intro vs u hl hu w
 match vs,hl with
 | [a,b,c,d,e,f],_ =>
 cases hu
 show _ = _
 kernel_rfl
theorem conv_formM:MethOk Tryz.prog 126 "loop.example/s0015/impl.form" true 6 205:=by
 intro vs u hl hu w
 match vs,hl with
 | [a,b,c,d,e,f],_ =>
 cases hu
 show _ = _
 kernel_rfl
theorem norm_formM:MethOk Tryz.prog 127 "loop.example/s0015/impl.form" true 6 208:=by
 intro vs u hl hu w
 match vs,hl with
 | [a,b,c,d,e,f],_ =>
 cases hu
 show _ = _
 kernel_rfl
theorem dense_shapeM:MethOk Tryz.prog 121 "loop.example/s0015/impl.shape" true 6 190:=by
 intro vs u hl hu w
 match vs,hl with
 | [a,b,c,d,e,f],_ =>
 cases hu
 show _ = _
 kernel_rfl
theorem relu_shapeM:MethOk Tryz.prog 122 "loop.example/s0015/impl.shape" true 6 194:=by
 intro vs u hl hu w
 match vs,hl with
 | [a,b,c,d,e,f],_ =>
 cases hu
 show _ = _
 kernel_rfl
theorem leaky_shapeM:MethOk Tryz.prog 123 "loop.example/s0015/impl.shape" true 6 196:=by
 intro vs u hl hu w
 match vs,hl with
 | [a,b,c,d,e,f],_ =>
 cases hu
 show _ = _
 kernel_rfl
theorem add_shapeM:MethOk Tryz.prog 124 "loop.example/s0015/impl.shape" true 6 199:=by
 intro vs u hl hu w
 match vs,hl with
 | [a,b,c,d,e,f],_ =>
 cases hu
 show _ = _
 kernel_rfl
theorem pool_shapeM:MethOk Tryz.prog 125 "loop.example/s0015/impl.shape" true 6 203:=by
 intro vs u hl hu w
 match vs,hl with
 | [a,b,c,d,e,f],_ =>
 cases hu
 show _ = _
 kernel_rfl
theorem conv_shapeM:MethOk Tryz.prog 126 "loop.example/s0015/impl.shape" true 6 206:=by
 intro vs u hl hu w
 match vs,hl with
 | [a,b,c,d,e,f],_ =>
 cases hu
 show _ = _
 kernel_rfl
theorem norm_shapeM:MethOk Tryz.prog 127 "loop.example/s0015/impl.shape" true 6 209:=by
 intro vs u hl hu w
 match vs,hl with
 | [a,b,c,d,e,f],_ =>
 cases hu
 show _ = _
 kernel_rfl
theorem dense_sourcesM:MethOk Tryz.prog 121 "loop.example/s0015/impl.sources" true 6 187:=by
 intro vs u hl hu w
 match vs,hl with
 | [a,b,c,d,e,f],_ =>
 cases hu
 show _ = _
 kernel_rfl
theorem relu_sourcesM:MethOk Tryz.prog 122 "loop.example/s0015/impl.sources" true 6 187:=by
 intro vs u hl hu w
 match vs,hl with
 | [a,b,c,d,e,f],_ =>
 cases hu
 show _ = _
 kernel_rfl
theorem leaky_sourcesM:MethOk Tryz.prog 123 "loop.example/s0015/impl.sources" true 6 187:=by
 intro vs u hl hu w
 match vs,hl with
 | [a,b,c,d,e,f],_ =>
 cases hu
 show _ = _
 kernel_rfl
theorem add_sourcesM:MethOk Tryz.prog 124 "loop.example/s0015/impl.sources" true 6 200:=by
 intro vs u hl hu w
 match vs,hl with
 | [a,b,c,d,e,f],_ =>
 cases hu
 show _ = _
 kernel_rfl
theorem pool_sourcesM:MethOk Tryz.prog 125 "loop.example/s0015/impl.sources" true 6 187:=by
 intro vs u hl hu w
 match vs,hl with
 | [a,b,c,d,e,f],_ =>
 cases hu
 show _ = _
 kernel_rfl
theorem conv_sourcesM:MethOk Tryz.prog 126 "loop.example/s0015/impl.sources" true 6 187:=by
 intro vs u hl hu w
 match vs,hl with
 | [a,b,c,d,e,f],_ =>
 cases hu
 show _ = _
 kernel_rfl
theorem norm_sourcesM:MethOk Tryz.prog 127 "loop.example/s0015/impl.sources" true 6 187:=by
 intro vs u hl hu w
 match vs,hl with
 | [a,b,c,d,e,f],_ =>
 cases hu
 show _ = _
 kernel_rfl
theorem dense_nilM:NilOk Tryz.prog 121 "loop.example/s0015/impl.shape" true 6:=by
 intro vs u hl hu w
 match vs,hl with
 | [a,b,c,d,e,f],_ =>
 cases hu
 show _ = _
 kernel_rfl
theorem relu_nilM:NilOk Tryz.prog 122 "loop.example/s0015/impl.shape" true 6:=by
 intro vs u hl hu w
 match vs,hl with
 | [a,b,c,d,e,f],_ =>
 cases hu
 show _ = _
 kernel_rfl
theorem leaky_nilM:NilOk Tryz.prog 123 "loop.example/s0015/impl.shape" true 6:=by
 intro vs u hl hu w
 match vs,hl with
 | [a,b,c,d,e,f],_ =>
 cases hu
 show _ = _
 kernel_rfl
theorem add_nilM:NilOk Tryz.prog 124 "loop.example/s0015/impl.shape" true 6:=by
 intro vs u hl hu w
 match vs,hl with
 | [a,b,c,d,e,f],_ =>
 cases hu
 show _ = _
 kernel_rfl
theorem pool_nilM:NilOk Tryz.prog 125 "loop.example/s0015/impl.shape" true 6:=by
 intro vs u hl hu w
 match vs,hl with
 | [a,b,c,d,e,f],_ =>
 cases hu
 show _ = _
 kernel_rfl
theorem conv_nilM:NilOk Tryz.prog 126 "loop.example/s0015/impl.shape" true 6:=by
 intro vs u hl hu w
 match vs,hl with
 | [a,b,c,d,e,f],_ =>
 cases hu
 show _ = _
 kernel_rfl
theorem norm_nilM:NilOk Tryz.prog 127 "loop.example/s0015/impl.shape" true 6:=by
 intro vs u hl hu w
 match vs,hl with
 | [a,b,c,d,e,f],_ =>
 cases hu
 show _ = _
 kernel_rfl
theorem opForm {rok:RtD → Bool} (hr:Valid Tryz.prog 71 (rokCon rok)) {o:Int} (h:1 ≤ o ∧ o ≤ 7):∃ k,MethOk Tryz.prog (tyF o) "loop.example/s0015/impl.form" true 6 k ∧ Valid Tryz.prog k (mfCon rok o):=by
 rcases (by omega:o = 1 ∨ o = 2 ∨ o = 3 ∨ o = 4 ∨ o = 5 ∨ o = 6 ∨ o = 7) with rfl | rfl | rfl | rfl | rfl | rfl | rfl
 ·exact ⟨_,dense_formM,dense_form hr⟩
 ·exact ⟨_,relu_formM,relu_form hr⟩
 ·exact ⟨_,leaky_formM,leaky_form hr⟩
 ·exact ⟨_,add_formM,add_form hr⟩
 ·exact ⟨_,pool_formM,pool_form hr⟩
 ·exact ⟨_,conv_formM,conv_form hr⟩
 ·exact ⟨_,norm_formM,norm_form hr⟩
theorem opShape {o:Int} (h:1 ≤ o ∧ o ≤ 7):∃ k,MethOk Tryz.prog (tyF o) "loop.example/s0015/impl.shape" true 6 k ∧ NilOk Tryz.prog (tyF o) "loop.example/s0015/impl.shape" true 6 ∧ Valid Tryz.prog k (msCon o):=by
 rcases (by omega:o = 1 ∨ o = 2 ∨ o = 3 ∨ o = 4 ∨ o = 5 ∨ o = 6 ∨ o = 7) with rfl | rfl | rfl | rfl | rfl | rfl | rfl
 ·exact ⟨_,dense_shapeM,dense_nilM,dense_shape⟩
 ·exact ⟨_,relu_shapeM,relu_nilM,relu_shape⟩
 ·exact ⟨_,leaky_shapeM,leaky_nilM,leaky_shape⟩
 ·exact ⟨_,add_shapeM,add_nilM,add_shape⟩
 ·exact ⟨_,pool_shapeM,pool_nilM,pool_shape⟩
 ·exact ⟨_,conv_shapeM,conv_nilM,conv_shape⟩
 ·exact ⟨_,norm_shapeM,norm_nilM,norm_shape⟩
theorem opSrc {o:Int} (h:1 ≤ o ∧ o ≤ 7):∃ (k:FuncId) (p:Int → Prop),MethOk Tryz.prog (tyF o) "loop.example/s0015/impl.sources" true 6 k ∧ p o ∧ Valid Tryz.prog k (msrCon p):=by
 rcases (by omega:o = 1 ∨ o = 2 ∨ o = 3 ∨ o = 4 ∨ o = 5 ∨ o = 6 ∨ o = 7) with rfl | rfl | rfl | rfl | rfl | rfl | rfl
 ·exact ⟨_,_,dense_sourcesM,by decide,node_src⟩
 ·exact ⟨_,_,relu_sourcesM,by decide,node_src⟩
 ·exact ⟨_,_,leaky_sourcesM,by decide,node_src⟩
 ·exact ⟨_,fun o=>o = 4,add_sourcesM,rfl,add_src⟩
 ·exact ⟨_,_,pool_sourcesM,by decide,node_src⟩
 ·exact ⟨_,_,conv_sourcesM,by decide,node_src⟩
 ·exact ⟨_,_,norm_sourcesM,by decide,node_src⟩
end Go.Proofs.YtijldkknhphgcaaGreat.Pv
end

section
/- A graph's check (the program's). No condition. -/
set_option linter.unusedVariables false
set_option linter.unusedSimpArgs false
namespace Go.Proofs.YtijldkknhphgcaaGreat.Pv
open Go.RowKit
def ChkEnd (g:Gr) (s:St):Prop:=∃ (l:List Int) (c i:Int),(l,c,i) = chkG g ∧ look s.tm 3 = int .i64 c ∧ look s.tm 4 = int .i64 i ∧
 ((l = [] ∧ look s.tm 2 = .one (.p false [.v (.slice none 0 0)])) ∨ ∃ b,look s.tm 2 = .one (.o false [.sl b 0 l.length l.length]) ∧ s.H[b]? = some (.p 3 1 (l.map iRow)))
theorem endNil {g:Gr} {s:St} {c i:Int} (e:(([]:List Int),c,i) = chkG g) (h2:look s.tm 2 = .one (.p false [.v (.slice none 0 0)])) (h3:look s.tm 3 = int .i64 c) (h4:look s.tm 4 = int .i64 i):ChkEnd g s:=⟨[],c,i,e,h3,h4,.inl ⟨rfl,h2⟩⟩
def gSt1 (g:Gr) (nx k:Nat):St:=⟨[(1,.one (.o false [.pt 0 0 0 1])),(64,int .i64 g.lo.length),(65,int .i64 k)],[.p 33 6 [rowG g]],176,nx,0⟩
def gSt2 (g:Gr) (nx:Nat) (dims:List Int):St:=⟨[(1,.one (.o false [.pt 0 0 0 1])),(6,.one (.o false [.sl 1 0 dims.length dims.length])),(86,.one (.p false [nodsD g.nodes])),(87,int .i64 g.nodes.length),(88,int .i64 ((dims.length:Int) - 1))],
 [.p 33 6 [rowG g],.p 3 1 (dims.map iRow)],176,nx,0⟩
def gSt3 (g:Gr) (nx:Nat) (dims:List Int) (n:Nod) (j:Nat):St:=⟨[(1,.one (.o false [.pt 0 0 0 1])),(6,.one (.o false [.sl 1 0 dims.length dims.length])),(7,int .i64 ((dims.length:Int) - 1)),(8,.one (.o false [.pt 2 0 0 1])),(9,.one (.p false [opD n.op n])),(10,.one (.p false [intsD (srcF n)])),(86,.one (.p false [nodsD g.nodes])),(87,int .i64 g.nodes.length),(88,int .i64 ((dims.length:Int) - 1)),(106,.one (.p false [intsD (srcF n)])),(107,int .i64 (srcF n).length),(108,int .i64 j)],
 [.p 33 6 [rowG g],.p 3 1 (dims.map iRow),.p 73 6 [rowN n]],176,nx,0⟩
set_option maxHeartbeats 8000000 in
theorem check_W (g:Gr) (hg:GOk g) (nx:Nat):W Tryz.prog Tryz.f9.body.get! (fun e s=>(e = .normal ∨ e = .ret) ∧ ChkEnd g s) ⟨[(0,.one (.p true (rowG g)))],[],176,nx,0⟩:=by
 have hnl:(g.nodes.map rowN).length = g.nodes.length:=List.length_map ..
 have hll:(g.lo.map rowR).length = g.lo.length:=List.length_map ..
 have hhl:(g.hi.map rowR).length = g.hi.length:=List.length_map ..
 have hn0:=hg.2.2.1
 ((conv=>whnf);repeat'((first|refine zo T rfl ?_|refine zl ?_);conv=>whnf))
 refine .inl ⟨dimCon,g.inp,dimOK_valid,trivial,.cons (.same _ _) .nil,?_⟩
 ((conv=>whnf);repeat'((first|refine zo T rfl ?_|refine zl ?_);conv=>whnf))
 refine ⟨fun h=>?_,fun h=>?_⟩
 rotate_left
 ·(repeat'((first|refine zo T rfl ?_|refine zl ?_|refine zp h ?_|refine zq h ?_|refine zp rfl ?_|refine zq rfl ?_);conv=>whnf))
  refine W_cond rfl (fun _=>?_) (fun h=>by cases h)
  have h:(!(cond (decide (1 ≤ g.inp)) (decide (g.inp ≤ 1000)) false)) = true:=h
  simp at h
  ((conv=>whnf);repeat'((first|refine zo T rfl ?_|refine zl ?_);conv=>whnf))
  exact W_ret ⟨.inr rfl,endNil (chk_bad fun hh=>by unfold HeadOk at hh;omega) rfl rfl rfl⟩
 have h1:(!(cond (decide (1 ≤ g.inp)) (decide (g.inp ≤ 1000)) false)) = false:=h
 (repeat'((first|refine zo T rfl ?_|refine zl ?_|refine zp h ?_|refine zq h ?_|refine zp rfl ?_|refine zq rfl ?_);conv=>whnf))
 refine ⟨fun h=>?_,fun h=>?_⟩
 rotate_left
 ·(repeat'((first|refine zo T rfl ?_|refine zl ?_|refine zp h ?_|refine zq h ?_|refine zp rfl ?_|refine zq rfl ?_);conv=>whnf))
  refine W_cond rfl (fun _=>?_) (fun h=>by cases h)
  have h:(cond (!(cond (decide (1 ≤ g.inp)) (decide (g.inp ≤ 1000)) false)) true (decide (g.rnd < 0))) = true:=h
  rw [h1] at h
  have h:=of_decide_eq_true (show (decide (g.rnd < 0)) = true from h)
  ((conv=>whnf);repeat'((first|refine zo T rfl ?_|refine zl ?_);conv=>whnf))
  exact W_ret ⟨.inr rfl,endNil (chk_bad fun hh=>by unfold HeadOk at hh;omega) rfl rfl rfl⟩
 have h2:(cond (!(cond (decide (1 ≤ g.inp)) (decide (g.inp ≤ 1000)) false)) true (decide (g.rnd < 0))) = false:=h
 (repeat'((first|refine zo T rfl ?_|refine zl ?_|refine zp h ?_|refine zq h ?_|refine zp rfl ?_|refine zq rfl ?_);conv=>whnf))
 refine ⟨fun h=>?_,fun h=>?_⟩
 rotate_left
 ·(repeat'((first|refine zo T rfl ?_|refine zl ?_|refine zp h ?_|refine zq h ?_|refine zp rfl ?_|refine zq rfl ?_);conv=>whnf))
  refine W_cond rfl (fun _=>?_) (fun h=>by cases h)
  have h:(cond (cond (!(cond (decide (1 ≤ g.inp)) (decide (g.inp ≤ 1000)) false)) true (decide (g.rnd < 0))) true (decide (g.rnd > 1000))) = true:=h
  rw [h2] at h
  have h:=of_decide_eq_true (show (decide (g.rnd > 1000)) = true from h)
  ((conv=>whnf);repeat'((first|refine zo T rfl ?_|refine zl ?_);conv=>whnf))
  exact W_ret ⟨.inr rfl,endNil (chk_bad fun hh=>by unfold HeadOk at hh;omega) rfl rfl rfl⟩
 have h3:(cond (cond (!(cond (decide (1 ≤ g.inp)) (decide (g.inp ≤ 1000)) false)) true (decide (g.rnd < 0))) true (decide (g.rnd > 1000))) = false:=h
 (repeat'((first|refine zo T rfl ?_|refine zl ?_|refine zp h ?_|refine zq h ?_|refine zp rfl ?_|refine zq rfl ?_);conv=>whnf))
 refine ⟨fun h=>?_,fun h=>?_⟩
 rotate_left
 ·(repeat'((first|refine zo T rfl ?_|refine zl ?_|refine zp h ?_|refine zq h ?_|refine zp rfl ?_|refine zq rfl ?_);conv=>whnf))
  refine W_cond rfl (fun _=>?_) (fun h=>by cases h)
  have h:(cond (cond (cond (!(cond (decide (1 ≤ g.inp)) (decide (g.inp ≤ 1000)) false)) true (decide (g.rnd < 0))) true (decide (g.rnd > 1000))) true (((g.lo.map rowR).length:Int) != g.inp)) = true:=h
  rw [h3] at h
  have h:=bne_iff_ne.1 (show (((g.lo.map rowR).length:Int) != g.inp) = true from h)
  ((conv=>whnf);repeat'((first|refine zo T rfl ?_|refine zl ?_);conv=>whnf))
  exact W_ret ⟨.inr rfl,endNil (chk_bad fun hh=>by unfold HeadOk at hh;omega) rfl rfl rfl⟩
 have h4:(cond (cond (cond (!(cond (decide (1 ≤ g.inp)) (decide (g.inp ≤ 1000)) false)) true (decide (g.rnd < 0))) true (decide (g.rnd > 1000))) true (((g.lo.map rowR).length:Int) != g.inp)) = false:=h
 (repeat'((first|refine zo T rfl ?_|refine zl ?_|refine zp h ?_|refine zq h ?_|refine zp rfl ?_|refine zq rfl ?_);conv=>whnf))
 refine ⟨fun h=>?_,fun h=>?_⟩
 rotate_left
 ·(repeat'((first|refine zo T rfl ?_|refine zl ?_|refine zp h ?_|refine zq h ?_|refine zp rfl ?_|refine zq rfl ?_);conv=>whnf))
  refine W_cond rfl (fun _=>?_) (fun h=>by cases h)
  have h:(cond (cond (cond (cond (!(cond (decide (1 ≤ g.inp)) (decide (g.inp ≤ 1000)) false)) true (decide (g.rnd < 0))) true (decide (g.rnd > 1000))) true (((g.lo.map rowR).length:Int) != g.inp)) true (((g.hi.map rowR).length:Int) != g.inp)) = true:=h
  rw [h4] at h
  have h:=bne_iff_ne.1 (show (((g.hi.map rowR).length:Int) != g.inp) = true from h)
  ((conv=>whnf);repeat'((first|refine zo T rfl ?_|refine zl ?_);conv=>whnf))
  exact W_ret ⟨.inr rfl,endNil (chk_bad fun hh=>by unfold HeadOk at hh;omega) rfl rfl rfl⟩
 have h5:(cond (cond (cond (cond (!(cond (decide (1 ≤ g.inp)) (decide (g.inp ≤ 1000)) false)) true (decide (g.rnd < 0))) true (decide (g.rnd > 1000))) true (((g.lo.map rowR).length:Int) != g.inp)) true (((g.hi.map rowR).length:Int) != g.inp)) = false:=h
 (repeat'((first|refine zo T rfl ?_|refine zl ?_|refine zp h ?_|refine zq h ?_|refine zp rfl ?_|refine zq rfl ?_);conv=>whnf))
 refine .inl ⟨allCon rokF,g.lo,ok_valid ratOk_valid,hg.1,.cons (.same _ _) .nil,?_⟩
 (repeat'((first|refine zo T rfl ?_|refine zl ?_|refine zp h ?_|refine zq h ?_|refine zp rfl ?_|refine zq rfl ?_);conv=>whnf))
 refine ⟨fun h=>?_,fun h=>?_⟩
 rotate_left
 ·(repeat'((first|refine zo T rfl ?_|refine zl ?_|refine zp h ?_|refine zq h ?_|refine zp rfl ?_|refine zq rfl ?_);conv=>whnf))
  refine W_cond rfl (fun _=>?_) (fun h=>by cases h)
  have h:(cond (cond (cond (cond (cond (!(cond (decide (1 ≤ g.inp)) (decide (g.inp ≤ 1000)) false)) true (decide (g.rnd < 0))) true (decide (g.rnd > 1000))) true (((g.lo.map rowR).length:Int) != g.inp)) true (((g.hi.map rowR).length:Int) != g.inp)) true (!(g.lo.all rokF))) = true:=h
  rw [h5] at h
  have h:(!(g.lo.all rokF)) = true:=h
  ((conv=>whnf);repeat'((first|refine zo T rfl ?_|refine zl ?_);conv=>whnf))
  exact W_ret ⟨.inr rfl,endNil (chk_bad fun hh=>by unfold HeadOk at hh;rw [hh.2.2.2.2.2.1] at h;cases h) rfl rfl rfl⟩
 have h6:(cond (cond (cond (cond (cond (!(cond (decide (1 ≤ g.inp)) (decide (g.inp ≤ 1000)) false)) true (decide (g.rnd < 0))) true (decide (g.rnd > 1000))) true (((g.lo.map rowR).length:Int) != g.inp)) true (((g.hi.map rowR).length:Int) != g.inp)) true (!(g.lo.all rokF))) = false:=h
 (repeat'((first|refine zo T rfl ?_|refine zl ?_|refine zp h ?_|refine zq h ?_|refine zp rfl ?_|refine zq rfl ?_);conv=>whnf))
 refine .inl ⟨allCon rokF,g.hi,ok_valid ratOk_valid,hg.2.1,.cons (.same _ _) .nil,?_⟩
 (repeat'((first|refine zo T rfl ?_|refine zl ?_|refine zp h ?_|refine zq h ?_|refine zp rfl ?_|refine zq rfl ?_);conv=>whnf))
 refine ⟨fun h=>?_,fun h=>?_⟩
 rotate_left
 ·(repeat'((first|refine zo T rfl ?_|refine zl ?_|refine zp h ?_|refine zq h ?_|refine zp rfl ?_|refine zq rfl ?_);conv=>whnf))
  refine W_cond rfl (fun _=>?_) (fun h=>by cases h)
  have h:(cond (cond (cond (cond (cond (cond (!(cond (decide (1 ≤ g.inp)) (decide (g.inp ≤ 1000)) false)) true (decide (g.rnd < 0))) true (decide (g.rnd > 1000))) true (((g.lo.map rowR).length:Int) != g.inp)) true (((g.hi.map rowR).length:Int) != g.inp)) true (!(g.lo.all rokF))) true (!(g.hi.all rokF))) = true:=h
  rw [h6] at h
  have h:(!(g.hi.all rokF)) = true:=h
  ((conv=>whnf);repeat'((first|refine zo T rfl ?_|refine zl ?_);conv=>whnf))
  exact W_ret ⟨.inr rfl,endNil (chk_bad fun hh=>by unfold HeadOk at hh;rw [hh.2.2.2.2.2.2] at h;cases h) rfl rfl rfl⟩
 have h7:(cond (cond (cond (cond (cond (cond (!(cond (decide (1 ≤ g.inp)) (decide (g.inp ≤ 1000)) false)) true (decide (g.rnd < 0))) true (decide (g.rnd > 1000))) true (((g.lo.map rowR).length:Int) != g.inp)) true (((g.hi.map rowR).length:Int) != g.inp)) true (!(g.lo.all rokF))) true (!(g.hi.all rokF))) = false:=h
 (repeat'((first|refine zo T rfl ?_|refine zl ?_|refine zp h ?_|refine zq h ?_|refine zp rfl ?_|refine zq rfl ?_);conv=>whnf))
 refine W_cond rfl (fun h=>?_) (fun h=>?_)
 ·have h:(cond (cond (cond (cond (cond (cond (cond (!(cond (decide (1 ≤ g.inp)) (decide (g.inp ≤ 1000)) false)) true (decide (g.rnd < 0))) true (decide (g.rnd > 1000))) true (((g.lo.map rowR).length:Int) != g.inp)) true (((g.hi.map rowR).length:Int) != g.inp)) true (!(g.lo.all rokF))) true (!(g.hi.all rokF))) true (decide (((g.nodes.map rowN).length:Int) > 1000))) = true:=h
  rw [h7] at h
  have h:=of_decide_eq_true (show (decide (((g.nodes.map rowN).length:Int) > 1000)) = true from h)
  ((conv=>whnf);repeat'((first|refine zo T rfl ?_|refine zl ?_);conv=>whnf))
  exact W_ret ⟨.inr rfl,endNil (chk_bad fun hh=>by unfold HeadOk at hh;omega) rfl rfl rfl⟩
 have h8:(cond (cond (cond (cond (cond (cond (cond (!(cond (decide (1 ≤ g.inp)) (decide (g.inp ≤ 1000)) false)) true (decide (g.rnd < 0))) true (decide (g.rnd > 1000))) true (((g.lo.map rowR).length:Int) != g.inp)) true (((g.hi.map rowR).length:Int) != g.inp)) true (!(g.lo.all rokF))) true (!(g.hi.all rokF))) true (decide (((g.nodes.map rowN).length:Int) > 1000))) = false:=h
 rw [h7] at h8
 rw [h6] at h7
 rw [h5] at h6
 rw [h4] at h5
 rw [h3] at h4
 rw [h2] at h3
 rw [h1] at h2
 simp at h1
 have h2:=of_decide_eq_false (show (decide (g.rnd < 0)) = false from h2)
 have h3:=of_decide_eq_false (show (decide (g.rnd > 1000)) = false from h3)
 have h4:=bne_eq_false_iff_eq.1 (show (((g.lo.map rowR).length:Int) != g.inp) = false from h4)
 have h5:=bne_eq_false_iff_eq.1 (show (((g.hi.map rowR).length:Int) != g.inp) = false from h5)
 have h6:g.lo.all rokF = true:=by simpa using (show (!(g.lo.all rokF)) = false from h6)
 have h7:g.hi.all rokF = true:=by simpa using (show (!(g.hi.all rokF)) = false from h7)
 have h8:=of_decide_eq_false (show (decide (((g.nodes.map rowN).length:Int) > 1000)) = false from h8)
 have hh:HeadOk rokF g:=⟨⟨by omega,by omega⟩,⟨by omega,by omega⟩,by omega,by omega,by omega,h6,h7⟩
 ((conv=>whnf);repeat'((first|refine zo T rfl ?_|refine zl ?_);conv=>whnf))
 refine W_loop (ι:=Nat) (fun k=>k ≤ g.lo.length ∧ chkG g = boxN cmpF (restG g) (g.lo.drop k) (g.hi.drop k) k) (gSt1 g nx) (fun k=>g.lo.length - k) 0 ⟨Nat.zero_le _,chk_head hh⟩ ?_ ?_
 ·refine ⟨rfl,rfl,rfl,Nat.zero_le _,⟨rfl,trivial⟩,⟨rfl,?_,rfl,trivial⟩,rfl⟩
  show int .i64 (((g.lo.map rowR).length:Nat):Int) = _
  rw [hll]
 rintro k ⟨hk,hc⟩
 ((conv=>whnf);repeat'((first|refine zo T rfl ?_|refine zl ?_);conv=>whnf))
 refine W_cond rfl (fun h=>?_) (fun h=>?_)
 ·have h:=of_decide_eq_true (show decide ((k:Int) < (g.lo.length:Int)) = true from h)
  rw [boxN_step (by omega) (by omega)] at hc
  ((conv=>whnf);repeat'((first|refine zo T rfl ?_|refine zl ?_);conv=>whnf))
  refine W_draw T 12 rfl (by kernel_rfl) ?_
  ((conv=>whnf);repeat'((first|refine zo T rfl ?_|refine zl ?_);conv=>whnf))
  refine ⟨Int.natCast_nonneg k,by show (k:Int) < (g.lo.map rowR).length;omega,_,rowMap g.lo rowR _,?_⟩
  ((conv=>whnf);repeat'((first|refine zo T rfl ?_|refine zl ?_);conv=>whnf))
  refine ⟨Int.natCast_nonneg k,by show (k:Int) < (g.hi.map rowR).length;omega,_,rowMap g.hi rowR _,?_⟩
  ((conv=>whnf);repeat'((first|refine zo T rfl ?_|refine zl ?_);conv=>whnf))
  refine ⟨cmpCon,(g.lo.getD k default,g.hi.getD k default),cmp_valid,⟨good_at hg.1 h6 (by omega),good_at hg.2.1 h7 (by omega)⟩,.cons (.same _ _) (.cons (.same _ _) .nil),?_⟩
  ((conv=>whnf);repeat'((first|refine zo T rfl ?_|refine zl ?_);conv=>whnf))
  refine W_cond rfl (fun h8=>?_) (fun h8=>?_)
  ·have h8:=of_decide_eq_true (show decide (cmpF (g.lo.getD k default) (g.hi.getD k default) > 0) = true from h8)
   rw [if_pos h8] at hc
   ((conv=>whnf);repeat'((first|refine zo T rfl ?_|refine zl ?_);conv=>whnf))
   exact W_ret ⟨.inr rfl,endNil hc.symm rfl rfl rfl⟩
  ·have h8:=of_decide_eq_false (show decide (cmpF (g.lo.getD k default) (g.hi.getD k default) > 0) = false from h8)
   rw [if_neg h8] at hc
   ((conv=>whnf);repeat'((first|refine zo T rfl ?_|refine zl ?_);conv=>whnf))
   refine ⟨by show _ ≤ (k:Int) + 1 ∧ (k:Int) + 1 ≤ _;omega,?_⟩
   ((conv=>whnf);repeat'((first|refine zo T rfl ?_|refine zl ?_);conv=>whnf))
   exact ⟨k + 1,⟨by omega,hc⟩,by omega,by (refine St.le_mk ?_ ?_ ?_ ?_ ?_ ?_ ?_ <;> kernel_rfl)⟩
 ·have h:=of_decide_eq_false (show decide ((k:Int) < (g.lo.length:Int)) = false from h)
  obtain rfl:k = g.lo.length:=by omega
  rw [boxN_end (Nat.le_refl _)] at hc
  ((conv=>whnf);repeat'((first|refine zo T rfl ?_|refine zl ?_);conv=>whnf))
  have hc1:chkG g = outF g (chkN rokF (g.nodes.drop (([g.inp]:List Int).length - 1)) [g.inp]):=hc
  refine W_loop (ι:=List Int) (fun dims=>(1 ≤ dims.length ∧ dims.length ≤ g.nodes.length + 1) ∧ DimsOk dims ∧ chkG g = outF g (chkN rokF (g.nodes.drop (dims.length - 1)) dims)) (gSt2 g nx) (fun dims=>g.nodes.length + 1 - dims.length) [g.inp] ⟨⟨by simp,by simp⟩,fun d hd=>(by simp at hd;omega),hc1⟩ ?_ ?_
  ·refine ⟨rfl,rfl,rfl,Nat.zero_le _,⟨rfl,rfl,trivial⟩,⟨rfl,rfl,rfl,?_,rfl,trivial⟩,rfl⟩
   show int .i64 (((g.nodes.map rowN).length:Nat):Int) = _
   rw [hnl]
  rintro dims ⟨hd1,hd2,hc⟩
  have hdl:(dims.map iRow).length = dims.length:=List.length_map ..
  ((conv=>whnf);repeat'((first|refine zo T rfl ?_|refine zl ?_);conv=>whnf))
  refine W_cond rfl (fun h=>?_) (fun h=>?_)
  ·have h:=of_decide_eq_true (show decide (((dims.length:Int) - 1) < (g.nodes.length:Int)) = true from h)
   have hk:dims.length - 1 < g.nodes.length:=by omega
   have hmem:=getD_mem hk
   obtain ⟨n,hn⟩:∃ n,n = g.nodes.getD (dims.length - 1) default:=⟨_,rfl⟩
   rw [chkN_step hk,← hn] at hc
   rw [← hn] at hmem
   have hls:LsOk n.v:=hg.2.2.2 n hmem
   have hrow:RowAt (g.nodes.map rowN) ((dims.length:Int) - 1).toNat (rowN n):=by
    rw [show ((dims.length:Int) - 1).toNat = dims.length - 1 by omega,hn]
    exact rowMap g.nodes rowN _
   have he:((dims.length:Int) - 1) + 1 = dims.length:=by omega
   have bad:∀ c:Int,c ≠ 0 → c = codeF rokF n dims → (([]:List Int),c,((dims.length:Int) - 1) + 1) = chkG g:=fun c h0 h1=>by
    rw [hc,← h1,if_neg h0,outF,if_neg h0,he]
   have hb:-9223372036854775808 ≤ ((dims.length:Int) - 1) + 1 ∧ ((dims.length:Int) - 1) + 1 ≤ 9223372036854775807:=by omega
   ((conv=>whnf);repeat'((first|refine zo T rfl ?_|refine zl ?_);conv=>whnf))
   refine ⟨by show 0 ≤ (dims.length:Int) - 1;omega,by show (dims.length:Int) - 1 < (g.nodes.map rowN).length;omega,_,hrow,?_⟩
   ((conv=>whnf);repeat'((first|refine zo T rfl ?_|refine zl ?_);conv=>whnf))
   by_cases hop:1 ≤ n.op ∧ n.op ≤ 7
   ·refine .inl ⟨opCon,n,operatorOf_valid,hop,.cons (.same _ _) .nil,?_⟩
    ((conv=>whnf);repeat'((first|refine zo T rfl ?_|refine zl ?_);conv=>whnf))
    obtain ⟨kf,hmf,hvf⟩:=opForm ratOk_valid hop
    refine ⟨fun h=>?_,fun h=>by cases h⟩
    (repeat'((first|refine zo T rfl ?_|refine zl ?_|refine zp h ?_|refine zq h ?_|refine zp rfl ?_|refine zq rfl ?_);conv=>whnf))
    refine ⟨kf,hmf,mfCon rokF n.op,n,hvf,⟨hls,rfl⟩,.cons (.same _ _) .nil,?_⟩
    (repeat'((first|refine zo T rfl ?_|refine zl ?_|refine zp h ?_|refine zq h ?_|refine zp rfl ?_|refine zq rfl ?_);conv=>whnf))
    refine W_cond rfl (fun h2=>?_) (fun h2=>?_)
    ·have h2:(!(decide (FormOk rokF n))) = true:=h2
     simp at h2
     ((conv=>whnf);repeat'((first|refine zo T rfl ?_|refine zl ?_);conv=>whnf))
     refine ⟨hb,?_⟩
     ((conv=>whnf);repeat'((first|refine zo T rfl ?_|refine zl ?_);conv=>whnf))
     exact W_ret ⟨.inr rfl,endNil (bad 12 (by decide) (code12 h2)) rfl rfl rfl⟩
    have h2:(!(decide (FormOk rokF n))) = false:=h2
    simp at h2
    obtain ⟨ks,ps,hms,hps,hvs⟩:=opSrc hop
    ((conv=>whnf);repeat'((first|refine zo T rfl ?_|refine zl ?_);conv=>whnf))
    refine ⟨ks,hms,msrCon ps,n,hvs,hps,.cons (.same _ _) .nil,?_⟩
    ((conv=>whnf);repeat'((first|refine zo T rfl ?_|refine zl ?_);conv=>whnf))
    have hsl:((srcF n).map iRow).length = (srcF n).length:=List.length_map ..
    have hs2:1 ≤ (srcF n).length ∧ (srcF n).length ≤ 2:=by unfold srcF;split <;> simp
    refine W_loop (ι:=Nat) (fun j=>j ≤ (srcF n).length ∧ ∀ i,i < j → 0 ≤ (srcF n).getD i 0 ∧ (srcF n).getD i 0 < dims.length) (gSt3 g nx dims n) (fun j=>(srcF n).length - j) 0 ⟨Nat.zero_le _,fun i hi=>absurd hi (Nat.not_lt_zero _)⟩ ?_ ?_
    ·refine ⟨rfl,rfl,rfl,Nat.zero_le _,⟨rfl,rfl,rfl,trivial⟩,⟨rfl,rfl,rfl,rfl,rfl,rfl,rfl,rfl,rfl,rfl,?_,rfl,trivial⟩,rfl⟩
     ·show int .i64 ((((srcF n).map iRow).length:Nat):Int) = _
      rw [hsl]
    rintro j ⟨hj,hin⟩
    ((conv=>whnf);repeat'((first|refine zo T rfl ?_|refine zl ?_);conv=>whnf))
    refine W_cond rfl (fun h3=>?_) (fun h3=>?_)
    ·have h3:=of_decide_eq_true (show decide ((j:Int) < ((srcF n).length:Int)) = true from h3)
     have hrj:RowAt ((srcF n).map iRow) ((j:Int)).toNat (iRow ((srcF n).getD j 0)):=by
      rw [Int.toNat_natCast]
      exact rowMap (srcF n) iRow _
     have out:¬ (0 ≤ (srcF n).getD j 0 ∧ (srcF n).getD j 0 < dims.length) → ¬ srcIn n dims:=by
      intro ho hsi
      apply ho
      unfold srcIn at hsi
      unfold srcF at h3 ⊢
      split at h3
      ·rename_i h4
       have:=hsi.2 h4
       rw [if_pos h4]
       match j,h3 with
       | 0,_=>exact hsi.1
       | 1,_=>exact this
       | j + 2,h3=>simp at h3;omega
      ·rename_i h4
       rw [if_neg h4]
       match j,h3 with
       | 0,_=>exact hsi.1
       | j + 1,h3=>simp at h3;omega
     ((conv=>whnf);repeat'((first|refine zo T rfl ?_|refine zl ?_);conv=>whnf))
     refine ⟨Int.natCast_nonneg j,by show (j:Int) < ((srcF n).map iRow).length;omega,_,hrj,?_⟩
     ((conv=>whnf);repeat'((first|refine zo T rfl ?_|refine zl ?_);conv=>whnf))
     refine ⟨fun h4=>?_,fun h4=>?_⟩
     rotate_left
     ·(repeat'((first|refine zo T rfl ?_|refine zl ?_|refine zp h4 ?_|refine zq h4 ?_|refine zp rfl ?_|refine zq rfl ?_);conv=>whnf))
      refine W_cond rfl (fun _=>?_) (fun h=>by cases h)
      have h4:=of_decide_eq_true (show decide ((srcF n).getD j 0 < 0) = true from h4)
      ((conv=>whnf);repeat'((first|refine zo T rfl ?_|refine zl ?_);conv=>whnf))
      refine ⟨hb,?_⟩
      ((conv=>whnf);repeat'((first|refine zo T rfl ?_|refine zl ?_);conv=>whnf))
      exact W_ret ⟨.inr rfl,endNil (bad 13 (by decide) (code13 h2 (out (by omega)))) rfl rfl rfl⟩
     have h5:decide ((srcF n).getD j 0 < 0) = false:=h4
     (repeat'((first|refine zo T rfl ?_|refine zl ?_|refine zp h4 ?_|refine zq h4 ?_|refine zp rfl ?_|refine zq rfl ?_);conv=>whnf))
     refine W_cond rfl (fun h6=>?_) (fun h6=>?_)
     ·have h6:cond (decide ((srcF n).getD j 0 < 0)) true (decide ((srcF n).getD j 0 > (dims.length:Int) - 1)) = true:=h6
      rw [h5] at h6
      have h6:=of_decide_eq_true (show decide ((srcF n).getD j 0 > (dims.length:Int) - 1) = true from h6)
      ((conv=>whnf);repeat'((first|refine zo T rfl ?_|refine zl ?_);conv=>whnf))
      refine ⟨hb,?_⟩
      ((conv=>whnf);repeat'((first|refine zo T rfl ?_|refine zl ?_);conv=>whnf))
      exact W_ret ⟨.inr rfl,endNil (bad 13 (by decide) (code13 h2 (out (by omega)))) rfl rfl rfl⟩
     ·have h6:cond (decide ((srcF n).getD j 0 < 0)) true (decide ((srcF n).getD j 0 > (dims.length:Int) - 1)) = false:=h6
      rw [h5] at h6
      have h6:=of_decide_eq_false (show decide ((srcF n).getD j 0 > (dims.length:Int) - 1) = false from h6)
      have h5:=of_decide_eq_false h5
      ((conv=>whnf);repeat'((first|refine zo T rfl ?_|refine zl ?_);conv=>whnf))
      refine ⟨by show _ ≤ (j:Int) + 1 ∧ (j:Int) + 1 ≤ _;omega,?_⟩
      ((conv=>whnf);repeat'((first|refine zo T rfl ?_|refine zl ?_);conv=>whnf))
      refine ⟨j + 1,⟨by omega,fun i hi=>?_⟩,by omega,by (refine St.le_mk ?_ ?_ ?_ ?_ ?_ ?_ ?_ <;> kernel_rfl)⟩
      by_cases hij:i = j
      ·subst hij;exact ⟨by omega,by omega⟩
      ·exact hin i (by omega)
    have h3:=of_decide_eq_false (show decide ((j:Int) < ((srcF n).length:Int)) = false from h3)
    obtain rfl:j = (srcF n).length:=by omega
    have hsi:srcIn n dims:=by
     unfold srcIn
     unfold srcF at hin
     split at hin
     ·rename_i h4
      exact ⟨hin 0 (by simp),fun _=>hin 1 (by simp)⟩
     ·rename_i h4
      exact ⟨hin 0 (by simp),fun h=>absurd h h4⟩
    obtain ⟨kh,hmh,hnh,hvh⟩:=opShape hop
    obtain ⟨a0,ha0⟩:∃ a0,a0 = (srcF n).getD 0 0:=⟨_,rfl⟩
    obtain ⟨a1,ha1⟩:∃ a1,a1 = (srcF n).getD ((srcF n).length - 1) 0:=⟨_,rfl⟩
    have i0:=hin 0 (by omega)
    have i1:=hin ((srcF n).length - 1) (by omega)
    rw [← ha0] at i0
    rw [← ha1] at i1
    have d0:=dims_at hd2 i0.1 i0.2
    have d1:=dims_at hd2 i1.1 i1.2
    have r0:RowAt ((srcF n).map iRow) 0 (iRow a0):=ha0 ▸ rowMap (srcF n) iRow 0
    have r1:RowAt ((srcF n).map iRow) ((((srcF n).map iRow).length:Int) - 1).toNat (iRow a1):=by
     rw [show ((((srcF n).map iRow).length:Int) - 1).toNat = (srcF n).length - 1 by omega,ha1]
     exact rowMap (srcF n) iRow _
    have q0:RowAt (dims.map iRow) (0 + a0.toNat) (iRow (dimAt dims a0)):=by
     rw [Nat.zero_add]
     exact rowMap dims iRow _
    have q1:RowAt (dims.map iRow) (0 + a1.toNat) (iRow (dimAt dims a1)):=by
     rw [Nat.zero_add]
     exact rowMap dims iRow _
    have hdim:dimOf n dims = shapeF n (dimAt dims a0) (dimAt dims a1):=by
     unfold srcF at ha0 ha1
     unfold dimOf
     by_cases h4:n.op = 4
     ·rw [if_pos h4] at ha0 ha1
      have ha0:a0 = n.a:=ha0
      have ha1:a1 = n.b:=ha1
      rw [ha0,ha1]
     ·rw [if_neg h4] at ha0 ha1
      have ha0:a0 = n.a:=ha0
      have ha1:a1 = n.a:=ha1
      rw [ha0,ha1]
      unfold shapeF
      rw [if_neg h4,if_neg h4]
    ((conv=>whnf);repeat'((first|refine zo T rfl ?_|refine zl ?_);conv=>whnf))
    refine W_draw T 21 rfl (by kernel_rfl) ?_
    ((conv=>whnf);repeat'((first|refine zo T rfl ?_|refine zl ?_);conv=>whnf))
    refine ⟨Int.le_refl _,by show (0:Int) < ((srcF n).map iRow).length;omega,_,r0,?_⟩
    ((conv=>whnf);repeat'((first|refine zo T rfl ?_|refine zl ?_);conv=>whnf))
    refine ⟨hdl,i0.1,i0.2,?_⟩
    ((conv=>whnf);repeat'((first|refine zo T rfl ?_|refine zl ?_);conv=>whnf))
    refine ⟨hdl,by show 0 + a0.toNat < _;omega,_,q0,?_⟩
    ((conv=>whnf);repeat'((first|refine zo T rfl ?_|refine zl ?_);conv=>whnf))
    refine ⟨by show _ ≤ (((srcF n).map iRow).length:Int) - 1 ∧ (((srcF n).map iRow).length:Int) - 1 ≤ _;omega,?_⟩
    ((conv=>whnf);repeat'((first|refine zo T rfl ?_|refine zl ?_);conv=>whnf))
    refine ⟨by show 0 ≤ (((srcF n).map iRow).length:Int) - 1;omega,by show (((srcF n).map iRow).length:Int) - 1 < ((srcF n).map iRow).length;omega,_,r1,?_⟩
    ((conv=>whnf);repeat'((first|refine zo T rfl ?_|refine zl ?_);conv=>whnf))
    refine ⟨hdl,i1.1,i1.2,?_⟩
    ((conv=>whnf);repeat'((first|refine zo T rfl ?_|refine zl ?_);conv=>whnf))
    refine ⟨hdl,by show 0 + a1.toNat < _;omega,_,q1,?_⟩
    ((conv=>whnf);repeat'((first|refine zo T rfl ?_|refine zl ?_);conv=>whnf))
    refine ⟨hnh,?_⟩
    ((conv=>whnf);repeat'((first|refine zo T rfl ?_|refine zl ?_);conv=>whnf))
    refine ⟨kh,hmh,msCon n.op,(n,dimAt dims a0,dimAt dims a1),hvh,⟨⟨rfl,d0⟩,by show (n.op = 1 → 1 ≤ n.k ∧ n.k ≤ 1000) ∧ (n.op = 5 → 1 ≤ n.k) ∧ (n.op = 6 → (1 ≤ n.k ∧ n.k ≤ 1000) ∧ 1 ≤ n.s);unfold FormOk at h2;omega⟩,.cons (.same _ _) (.cons (.same _ _) (.cons (.same _ _) .nil)),?_⟩
    ((conv=>whnf);repeat'((first|refine zo T rfl ?_|refine zl ?_);conv=>whnf))
    refine W_cond rfl (fun h4=>?_) (fun h4=>?_)
    ·have h4:=eq_of_beq (show (shapeF n (dimAt dims a0) (dimAt dims a1) == 0) = true from h4)
     ((conv=>whnf);repeat'((first|refine zo T rfl ?_|refine zl ?_);conv=>whnf))
     refine ⟨hb,?_⟩
     ((conv=>whnf);repeat'((first|refine zo T rfl ?_|refine zl ?_);conv=>whnf))
     exact W_ret ⟨.inr rfl,endNil (bad 14 (by decide) (code14 h2 hsi (hdim.trans h4))) rfl rfl rfl⟩
    have h4:(shapeF n (dimAt dims a0) (dimAt dims a1) == 0) = false:=h4
    have h4:¬ dimOf n dims = 0:=by rw [hdim];simpa using h4
    have e4:dims.map iRow ++ [[.v (.int .i64 (shapeF n (dimAt dims a0) (dimAt dims a1)))]] = (dims ++ [dimOf n dims]).map iRow:=by rw [hdim];simp
    have e5:dims.length + 1 = (dims ++ [dimOf n dims]).length:=by simp
    have e6:((dims.length:Int) - 1) + 1 = ((dims ++ [dimOf n dims]).length:Int) - 1:=by rw [← e5];omega
    have hdims:DimsOk (dims ++ [dimOf n dims]):=by
     intro d hd
     rcases List.mem_append.1 hd with hd | hd
     ·exact hd2 d hd
     ·obtain rfl:d = dimOf n dims:=by simpa using hd
      rw [hdim] at h4 ⊢
      exact shape_ok h2 d0 h4
    ((conv=>whnf);repeat'((first|refine zo T rfl ?_|refine zl ?_);conv=>whnf))
    refine ⟨fun h5=>?_,fun h5=>?_⟩
    rotate_left
    ·(repeat'((first|refine zo T rfl ?_|refine zl ?_|refine zp h5 ?_|refine zq h5 ?_|refine zp rfl ?_|refine zq rfl ?_);conv=>whnf))
     refine W_cond rfl (fun h=>by cases h) (fun _=>?_)
     have h5:(n.op == 7) = false:=h5
     have hc0:=code0 h2 hsi h4 (fun hh=>by simp at h5;exact h5 hh.1)
     ((conv=>whnf);repeat'((first|refine zo T rfl ?_|refine zl ?_);conv=>whnf))
     refine ⟨rfl,rfl,hdl,?_⟩
     ((conv=>whnf);repeat'((first|refine zo T rfl ?_|refine zl ?_);conv=>whnf))
     refine ⟨rfl,rfl,rfl,?_⟩
     ((conv=>whnf);repeat'((first|refine zo T rfl ?_|refine zl ?_);conv=>whnf))
     refine ⟨by show (dims.length + 1) * 8 ≤ _;omega,by show dims.length + 1 ≤ _;omega,?_⟩
     ((conv=>whnf);repeat'((first|refine zo T rfl ?_|refine zl ?_);conv=>whnf))
     refine ⟨hb,?_⟩
     ((conv=>whnf);repeat'((first|refine zo T rfl ?_|refine zl ?_);conv=>whnf))
     refine ⟨dims ++ [dimOf n dims],⟨⟨by rw [← e5];omega,by rw [← e5];omega⟩,hdims,?_⟩,by rw [← e5];omega,rfl,rfl,rfl,Nat.zero_le _,⟨rfl,congrArg (HB.p _ 1) e4,trivial⟩,⟨rfl,congrArg (fun k=>X.one (.o false [.sl 1 0 k k])) e5,rfl,rfl,congrArg (int .i64) e6,trivial⟩,rfl⟩
     rw [← e5,hc,← hc0,if_pos rfl,show dims.length + 1 - 1 = dims.length - 1 + 1 by omega]
    ·have h7:n.op = 7:=eq_of_beq (show (n.op == 7) = true from h5)
     have h74:n.v.length = 4:=by unfold FormOk at h2;omega
     have hvl:(n.v.map rowR).length = n.v.length:=List.length_map ..
     (repeat'((first|refine zo T rfl ?_|refine zl ?_|refine zp h5 ?_|refine zq h5 ?_|refine zp rfl ?_|refine zq rfl ?_);conv=>whnf))
     refine ⟨by show (0:Int) ≤ 2;omega,by show (2:Int) < (n.v.map rowR).length;omega,_,rowMap n.v rowR 2,?_⟩
     (repeat'((first|refine zo T rfl ?_|refine zl ?_|refine zp h5 ?_|refine zq h5 ?_|refine zp rfl ?_|refine zq rfl ?_);conv=>whnf))
     refine .inl ⟨signCon,n.v.getD 2 default,sign_valid,hls.2 _ (getD_mem (by omega)),.cons (.same _ _) .nil,?_⟩
     (repeat'((first|refine zo T rfl ?_|refine zl ?_|refine zp h5 ?_|refine zq h5 ?_|refine zp rfl ?_|refine zq rfl ?_);conv=>whnf))
     refine W_cond rfl (fun h8=>?_) (fun h8=>?_)
     ·have h8:cond (n.op == 7) (Hand.signI (n.v.getD 2 default).1 (n.v.getD 2 default).2.1.length == 0) false = true:=h8
      rw [show (n.op == 7) = true from h5] at h8
      have h8:=eq_of_beq (show (Hand.signI (n.v.getD 2 default).1 (n.v.getD 2 default).2.1.length == 0) = true from h8)
      have h9:(n.v.getD 2 default).2.1.length = 0:=by
       unfold Hand.signI at h8
       split at h8
       ·assumption
       ·split at h8 <;> simp at h8
      ((conv=>whnf);repeat'((first|refine zo T rfl ?_|refine zl ?_);conv=>whnf))
      refine ⟨hb,?_⟩
      ((conv=>whnf);repeat'((first|refine zo T rfl ?_|refine zl ?_);conv=>whnf))
      exact W_ret ⟨.inr rfl,endNil (bad 15 (by decide) (code15 h2 hsi h4 ⟨h7,h9⟩)) rfl rfl rfl⟩
     ·have h8:cond (n.op == 7) (Hand.signI (n.v.getD 2 default).1 (n.v.getD 2 default).2.1.length == 0) false = false:=h8
      rw [show (n.op == 7) = true from h5] at h8
      have h8:(Hand.signI (n.v.getD 2 default).1 (n.v.getD 2 default).2.1.length == 0) = false:=h8
      have hc0:=code0 h2 hsi h4 (fun hh=>by
       have h9:=hh.2
       unfold Hand.signI at h8
       rw [if_pos h9] at h8
       cases h8)
      ((conv=>whnf);repeat'((first|refine zo T rfl ?_|refine zl ?_);conv=>whnf))
      refine ⟨rfl,rfl,hdl,?_⟩
      ((conv=>whnf);repeat'((first|refine zo T rfl ?_|refine zl ?_);conv=>whnf))
      refine ⟨rfl,rfl,rfl,?_⟩
      ((conv=>whnf);repeat'((first|refine zo T rfl ?_|refine zl ?_);conv=>whnf))
      refine ⟨by show (dims.length + 1) * 8 ≤ _;omega,by show dims.length + 1 ≤ _;omega,?_⟩
      ((conv=>whnf);repeat'((first|refine zo T rfl ?_|refine zl ?_);conv=>whnf))
      refine ⟨hb,?_⟩
      ((conv=>whnf);repeat'((first|refine zo T rfl ?_|refine zl ?_);conv=>whnf))
      refine ⟨dims ++ [dimOf n dims],⟨⟨by rw [← e5];omega,by rw [← e5];omega⟩,hdims,?_⟩,by rw [← e5];omega,rfl,rfl,rfl,Nat.zero_le _,⟨rfl,congrArg (HB.p _ 1) e4,trivial⟩,⟨rfl,congrArg (fun k=>X.one (.o false [.sl 1 0 k k])) e5,rfl,rfl,congrArg (int .i64) e6,trivial⟩,rfl⟩
      rw [← e5,hc,← hc0,if_pos rfl,show dims.length + 1 - 1 = dims.length - 1 + 1 by omega]
   ·refine .inl ⟨opCon0,n,operatorOf_nil,hop,.cons (.same _ _) .nil,?_⟩
    ((conv=>whnf);repeat'((first|refine zo T rfl ?_|refine zl ?_);conv=>whnf))
    refine ⟨(fun h=>by cases h),fun h=>?_⟩
    (repeat'((first|refine zo T rfl ?_|refine zl ?_|refine zp h ?_|refine zq h ?_|refine zp rfl ?_|refine zq rfl ?_);conv=>whnf))
    refine W_cond rfl (fun _=>?_) (fun h=>by cases h)
    ((conv=>whnf);repeat'((first|refine zo T rfl ?_|refine zl ?_);conv=>whnf))
    refine ⟨hb,?_⟩
    ((conv=>whnf);repeat'((first|refine zo T rfl ?_|refine zl ?_);conv=>whnf))
    exact W_ret ⟨.inr rfl,endNil (bad 12 (by decide) (code12 fun hf=>hop (by unfold FormOk at hf;omega))) rfl rfl rfl⟩
  ·have h:=of_decide_eq_false (show decide (((dims.length:Int) - 1) < (g.nodes.length:Int)) = false from h)
   rw [List.drop_eq_nil_of_le (by omega),chkN,outF,if_pos rfl] at hc
   ((conv=>whnf);repeat'((first|refine zo T rfl ?_|refine zl ?_);conv=>whnf))
   refine ⟨fun h9=>?_,fun h9=>?_⟩
   rotate_left
   ·(repeat'((first|refine zo T rfl ?_|refine zl ?_|refine zp h9 ?_|refine zq h9 ?_|refine zp rfl ?_|refine zq rfl ?_);conv=>whnf))
    refine W_cond rfl (fun _=>?_) (fun h=>by cases h)
    have h9:=of_decide_eq_true (show decide (g.out < 0) = true from h9)
    rw [if_neg (by omega)] at hc
    ((conv=>whnf);repeat'((first|refine zo T rfl ?_|refine zl ?_);conv=>whnf))
    exact W_ret ⟨.inr rfl,endNil hc.symm rfl rfl rfl⟩
   have h10:decide (g.out < 0) = false:=h9
   (repeat'((first|refine zo T rfl ?_|refine zl ?_|refine zp h9 ?_|refine zq h9 ?_|refine zp rfl ?_|refine zq rfl ?_);conv=>whnf))
   refine W_cond rfl (fun h11=>?_) (fun h11=>?_)
   ·have h11:cond (decide (g.out < 0)) true (decide (g.out > ((g.nodes.map rowN).length:Int))) = true:=h11
    rw [h10] at h11
    have h11:=of_decide_eq_true (show decide (g.out > ((g.nodes.map rowN).length:Int)) = true from h11)
    rw [if_neg (by omega)] at hc
    ((conv=>whnf);repeat'((first|refine zo T rfl ?_|refine zl ?_);conv=>whnf))
    exact W_ret ⟨.inr rfl,endNil hc.symm rfl rfl rfl⟩
   ·have h11:cond (decide (g.out < 0)) true (decide (g.out > ((g.nodes.map rowN).length:Int))) = false:=h11
    rw [h10] at h11
    have h11:=of_decide_eq_false (show decide (g.out > ((g.nodes.map rowN).length:Int)) = false from h11)
    have h10:=of_decide_eq_false h10
    rw [if_pos (by omega)] at hc
    ((conv=>whnf);repeat'((first|refine zo T rfl ?_|refine zl ?_);conv=>whnf))
    exact W_ret ⟨.inr rfl,dims,0,0,hc.symm,rfl,rfl,.inr ⟨1,rfl,rfl⟩⟩
end Go.Proofs.YtijldkknhphgcaaGreat.Pv
end

section
/- Owned data: more rules; rows of owned data. No condition. -/
set_option linter.unusedVariables false
set_option linter.unusedSimpArgs false
namespace Go.Proofs.YtijldkknhphgcaaGreat.Pv
open Go.RowKit
section
variable {b:B} {cur:List K} {tk:TK} {s:St} {a:Act} {w:World} {P:Program}
theorem W_asC {c:Code} {K':Exit → St → Prop} (i:Nat) {el sz:Nat} {rows:List (List D)} (hi:s.H[i]? = some (.p el sz rows)) (h:W P c K' { s with H:=s.H.set i (.c el sz (rows.map (·.map .d))) }):W P c K' s:=by
 refine ⟨fun b a w ⟨cur,tk,hs⟩=>h.1 b a w ⟨cur,tk,hs.bel,hs.frm,hs.bs,by simp [hs.len],fun j k g hk hg=>?_,hs.inj,hs.own,hs.tmp,hs.size,hs.dfr,hs.tkI,hs.tkB,hs.nm,hs.ok0,hs.cm,hs.n0,hs.m,hs.iv⟩⟩
 have hg:(s.H.set i (.c el sz (rows.map (·.map .d))))[j]? = some g:=hg
 by_cases hij:i = j
 ·subst hij
  have hil:=(List.getElem?_eq_some_iff.1 hi).1
  simp [hil] at hg
  subst hg
  exact hs.heap i k (.p el sz rows) hk hi
 ·rw [List.getElem?_set_ne hij] at hg
  exact hs.heap j k g hk hg
theorem call_new {k:FuncId} {xs:List X} {s:St} {Q:X → St → Prop} (con:ConM) (g:con.G) (hv:ValidM P k con) (hp:con.pre g) (hargs:ArgsM (fun i=>s.H[i]?) [] s.nx xs (con.args g)) {x:X} (hx:mapX (renL [] s.nx) (con.res g) = some x) (hQ:Q x { s with nx:=s.nx.succ }):callJ P k xs s Q:=by
 refine ⟨hv.1,fun b cur tk a w vs hs hl hrel=>?_⟩
 have hno:∀ x,tkIn [] tk x = none:=by
  intro x
  cases h:tkIn [] tk x with
  | none=>rfl
  | some l=>obtain ⟨m,_,h2,_⟩:=tkIn_some h;cases h2
 have hle:(mOf b cur tk w).Le ⟨w,fun k=>k < w.heap.size ∧ tkIn [] tk k = none,tkIn [] tk⟩:=⟨fun k hk=>⟨hk.2.1,hno k⟩,fun _ _=>rfl⟩
 have hargsX:argsX ⟨⟨w,fun k=>k < w.heap.size ∧ tkIn [] tk k = none,tkIn [] tk⟩,[]⟩ (con.args g) vs:=by
  obtain ⟨h1,h2⟩:=hargs.get
  refine ⟨by omega,fun i y v hy hv=>?_⟩
  obtain ⟨x,h3,h4⟩:=h2 i y hy
  have h5:=hrel i x v h3 hv
  cases h4 with
  | own _ hr =>
   refine mapX_bwd (e:=env b cur tk w) (e':=⟨⟨w,fun k=>k < w.heap.size ∧ tkIn [] tk k = none,tkIn [] tk⟩,[]⟩) hle (fun l l' hf hl'=>?_) h5 hr
   rcases renL_some hf with ⟨j,rfl,hj⟩ | ⟨j,rfl,rfl⟩
   ·cases hj
   ·exact absurd (Nat.lt_of_lt_of_le hl' hs.tkI.1) (Nat.lt_irrefl _)
  | data d hi hd =>
   obtain ⟨us,h6,h7⟩:=argLe_rel hs hs.known hd h5
   exact ⟨us,RelDL.mono (m:=⟨w,fun k=>k < w.heap.size ∧ (true = true ∨ okOf b cur tk w k),tk⟩) (m':=⟨w,fun k=>k < w.heap.size ∧ tkIn [] tk k = none,tkIn [] tk⟩) ⟨fun k hk=>⟨hk.1,hno k⟩,fun _ _=>rfl⟩ h6,h7⟩
 refine Calls.mono (hv.2 g hp w b.base _ (tkIn [] tk) vs (Nat.le_trans hs.bs hs.bel.size) rfl (fun k hk=>hk) (fun x l h=>by rw [hno] at h;cases h) (hs.iv.mono hle) hargsX) ?_
 rintro e w' ⟨v,tk',rfl,hbel,hfrm,⟨hn2,hv2⟩,hlab,hres,haft⟩
 have szs:w.heap.size ≤ w'.heap.size:=hbel.size
 have hT:∀ y,y < w.heap.size → tk' y = none:=by
  intro y hlt'
  cases h:tk' y with
  | none=>rfl
  | some l =>
   rcases (hlab y l h).2.2 with h1 | ⟨l0,h1⟩
   ·omega
   ·rw [hno] at h1;cases h1
 have hnew:∀ y,w.heap.size ≤ y → ∀ q ∈ cur,q.live = true → q.mat = true → q.blk ≠ y:=fun y hy q hq hl hm e=>by
  have:=(hs.blk hq hl hm).2
  omega
 have le:(env b cur tk w).Le (env b cur (tkOut [] s.nx tk tk') w'):=by
  refine ⟨⟨fun j hj=>⟨hj.1,Nat.lt_of_lt_of_le hj.2.1 szs,hj.2.2.1,tkOut_none (hT j hj.2.1) hj.2.2.2⟩,fun j hj=>hfrm j hj.2.1 (hno j)⟩,⟨fun y l hy=>⟨tkOut_old (hT y (hs.tkB y l hy).2.2.1) hy (by simp),hfrm y (hs.tkB y l hy).2.2.1 (hno y)⟩,Nat.le_trans hs.tkI.1 (Nat.le_succ _),fun l hl=>if_pos (Nat.lt_of_lt_of_le hl hs.tkI.1)⟩,fun i k hk=>⟨k,hk,Nat.le_refl _,fun _ _=>rfl⟩⟩
 refine ⟨v,x,_,cur,tkOut [] s.nx tk tk',rfl,hQ,rfl,?_,?_⟩
 ·refine ⟨hs.bel.trans hbel,fun j hj hw=>(hfrm j (Nat.lt_of_lt_of_le hj hs.bel.size) (hno j)).trans (hs.frm j hj hw),hs.bs,hs.len,fun i k hb hk hg=>?_,hs.inj,hs.own,fun t=>(hs.tmp t).mono le,hs.size,hs.dfr,⟨Nat.le_refl _,fun y l hy=>?_⟩,fun y l hy=>?_,⟨Nat.le_trans hs.nm.1 (Nat.le_trans hs.tkI.1 (Nat.le_succ _)),fun l hl=>(if_pos (Nat.lt_of_lt_of_le hl (Nat.le_trans hs.nm.1 hs.tkI.1))).trans (hs.nm.2 l hl)⟩,hs.ok0,hs.cm,hs.n0,hs.m,hs.iv.mono le.m⟩
  ·exact (hs.heap i k hb hk hg).mono le fun hl hm=>⟨hfrm _ (hs.blk (List.mem_of_getElem? hk) hl hm).2 (hno _),szs⟩
  ·show l.1 < s.nx + 1
   rcases tkOut_some hy with ⟨m,h1,h2⟩ | ⟨h1,h2,h3⟩
   ·rcases renL_some h2 with ⟨j,rfl,hj⟩ | ⟨j,rfl,rfl⟩
    ·cases hj
    ·exact Nat.lt_succ_self _
   ·have h4:=hs.tkI.2 y l h2
    have h5:=hs.tkI.1
    omega
  ·rcases tkOut_some hy with ⟨m,h1,h2⟩ | ⟨h1,h2,h3⟩
   ·obtain ⟨g1,g2,g3⟩:=hlab y m h1
    rcases g3 with g3 | ⟨l0,g3⟩
    ·exact ⟨.inr (Nat.le_trans hs.bel.size g3),Nat.le_trans (Nat.le_trans hs.bs hs.bel.size) g3,g2,hnew y g3⟩
    ·rw [hno] at g3;cases g3
   ·obtain ⟨h5,h6,h7,h8⟩:=hs.tkB y l h2
    exact ⟨h5,h6,Nat.lt_of_lt_of_le h7 szs,h8⟩
 ·refine mapX_fwd (e:=⟨⟨w',fun k=>w.heap.size ≤ k ∧ k < w'.heap.size ∧ tk' k = none,tk'⟩,[]⟩) (e':=env b cur (tkOut [] s.nx tk tk') w') ⟨fun j hj=>⟨.inr (Nat.le_trans hs.bel.size hj.1),hj.2.1,hnew j hj.1,tkOut_none hj.2.2 ?_⟩,fun _ _=>rfl⟩ (fun l l' hf hl=>?_) hres hx
  ·cases h:tk j with
   | none=>rfl
   | some l=>have:=(hs.tkB j l h).2.2.1;have:=hj.1;omega
  ·rcases renL_some hf with ⟨j,rfl,hj⟩ | ⟨j,rfl,rfl⟩
   ·cases hj
   ·refine ⟨Nat.lt_succ_self _,?_,fun y hy=>⟨tkOut_new hy,rfl⟩⟩
    show (if s.nx < s.nx then tk.v (s.nx,j) else tk'.v (1,j)) = tk'.v (1,j)
    rw [if_neg (Nat.lt_irrefl _)]
def plS:S → Bool
 | .ow _ _=>false
 | .fn _ _ _=>false
 | _=>true
def plV:V → Bool
 | .o _ ss=>ss.all plS
 | _=>true
def plX:X → Bool
 | .one v=>plV v
 | .tup vs=>vs.all plV
theorem upT_pl {u:List ((Nat × Nat) × D)} {x:S} (h:plS x = true):upT u x = x:=by cases x <;> first | rfl | cases h
theorem upX_pl {u:List ((Nat × Nat) × D)} {x:X} (h:plX x = true):upX u x = x:=by
 have hV:∀ v:V,plV v = true → upV u v = v:=by
  intro v hv
  cases v with
  | o ag ss =>
   have hv:ss.all plS = true:=hv
   have h1:ss.all notFn = true:=by
    rw [List.all_eq_true] at hv ⊢
    intro x hx
    have:=hv x hx
    cases x <;> first | rfl | cases this
   show cond (ss.all notFn) (V.o ag (ss.map (upT u))) .un = _
   rw [h1]
   have h2:ss.map (upT u) = ss:=by
    rw [List.all_eq_true] at hv
    exact (List.map_congr_left fun x hx=>upT_pl (hv x hx)).trans (List.map_id _)
   rw [h2]
   rfl
  | _=>rfl
 cases x with
 | one v=>exact congrArg X.one (hV v h)
 | tup vs =>
  have h:vs.all plV = true:=h
  rw [List.all_eq_true] at h
  exact congrArg X.tup ((List.map_congr_left fun x hx=>hV x (h x hx)).trans (List.map_id _))
theorem call_mark {k:FuncId} {xs:List X} {s:St} {Q:X → St → Prop} (con:ConM) (g:con.G) (ids:List (Nat × Nat)) (hv:ValidM P k con) (hp:con.pre g) (hn:ids.Nodup) (hlt:∀ l ∈ ids,l.1 < s.nx) (hfn:s.H.all fnB = true)
  (hargs:ArgsM (fun i=>s.H[i]?) ids s.nx xs (con.args g)) (hid:∀ l ∈ ids,lookL (updL ids (con.after g)) l ≠ none) {x:X} (hx:mapX (renL ids s.nx) (con.res g) = some x)
  (tm':List (Nat × X)) (H':List HB) (hT:tm'.map (fun p=>look s.tm p.1) = tm'.map (·.2)) (hpl:tm'.all (fun p=>plX p.2) = true) (hH:s.H.map (upH (updL ids (con.after g))) = H')
  (hlt2:(tm'.all (fun p=>p.2.lt H'.length)) = true) (hltH:H'.all (HB.lt H'.length) = true) (hm:s.m ≤ H'.length) (hxl:x.lt H'.length = true) (hQ:Q x ⟨tm',H',s.n,s.nx.succ,s.m⟩):callJ P k xs s Q:=by
 have h:=call_tree0 (Q:=fun y t=>y = x ∧ t = upSt (updL ids (con.after g)) s (s.nx + 1)) con g ids hv hp hn hlt hfn hargs hid hx ⟨rfl,rfl⟩
 refine ⟨h.1,fun b cur tk a w vs hs hl hrel=>(h.2 b cur tk a w vs hs hl hrel).mono ?_⟩
 rintro e w' ⟨v,y,t,cur',tk',rfl,⟨rfl,rfl⟩,hn2,hs',hr⟩
 have hle:St.le (upSt (updL ids (con.after g)) s (s.nx + 1)) ⟨tm',H',s.n,s.nx.succ,s.m⟩:=by
  refine ⟨rfl,rfl,rfl,hm,hle_take ?_,?_,by rw [Bool.and_eq_true];exact ⟨hlt2,hltH⟩⟩
  ·show (s.H.map _).take H'.length = H'
   rw [hH]
   exact List.take_length ..
  ·refine tle_map ?_
   refine Eq.trans (List.map_congr_left fun p hp=>?_) hT
   show look (s.tm.map fun p=>(p.1,upX (updL ids (con.after g)) p.2)) p.1 = look s.tm p.1
   have e:∀ tm:List (Nat × X),look (tm.map fun p=>(p.1,upX (updL ids (con.after g)) p.2)) p.1 = upX (updL ids (con.after g)) (look tm p.1):=by
    intro tm
    induction tm with
    | nil=>rfl
    | cons q r ih =>
     show cond (Nat.beq q.1 p.1) _ (look _ p.1) = upX _ (cond (Nat.beq q.1 p.1) q.2 (look r p.1))
     cases Nat.beq q.1 p.1 with
     | true=>rfl
     | false=>exact ih
   rw [e]
   refine upX_pl ?_
   have h1:look s.tm p.1 = p.2:=by
    obtain ⟨i,hi,rfl⟩:=List.getElem_of_mem hp
    have:=congrArg (fun l=>l[i]?) hT
    simpa [hi] using this
   rw [h1]
   exact List.all_eq_true.1 hpl p hp
 exact ⟨v,y,_,_,tk',rfl,hQ,rfl,hs'.le hle,RelX.trim (e:=env b cur' tk' w') (m':=mOf b (cur'.take H'.length) tk' w') ⟨fun j ⟨h1,h2,h3,h4⟩=>⟨h1,h2,fun q hq=>h3 q (List.mem_of_mem_take hq),h4⟩,fun _ _=>rfl⟩ (TkLe.same _ _) hr hxl⟩
end
theorem lab_row {lb:Nat → Nat → Nat × Nat} {rows:List (List D)} {i:Nat} {r:List D} (h:RowAt rows i r):RowAt (labR lb rows) i (r.mapIdx fun j d=>cellL (lb i j) d):=⟨fun hi=>by
 rw [labR_len] at hi
 unfold labR
 rw [List.getElem?_mapIdx,h.at_ hi]
 rfl⟩
theorem lab_set {lb:Nat → Nat → Nat × Nat} {rows:List (List D)} {i:Nat} {r:List D}:(labR lb rows).set i (r.mapIdx fun j d=>cellL (lb i j) d) = labR lb (rows.set i r):=by
 apply List.ext_getElem?
 intro k
 unfold labR
 rw [List.getElem?_mapIdx]
 by_cases h:i = k
 ·subst h
  by_cases hi:i < rows.length
  ·simp [hi]
  ·simp [hi]
 ·rw [List.getElem?_set_ne h,List.getElem?_set_ne h,List.getElem?_mapIdx]
theorem cellL_fn {l:Nat × Nat} {d:D}:notFn (cellL l d) = true:=by cases d <;> rfl
theorem cellL_lt {n k:Nat} {l:Nat × Nat} {d:D}:S.lt n k (cellL l d) = true:=by cases d <;> cases k <;> rfl
theorem lab_fn {el sz:Nat} {lb:Nat → Nat → Nat × Nat} {rows:List (List D)}:fnB (.c el sz (labR lb rows)) = true:=by
 refine List.all_eq_true.2 fun r hr=>List.all_eq_true.2 fun x hx=>?_
 obtain ⟨i,hi,rfl⟩:=List.getElem_of_mem hr
 obtain ⟨j,hj,rfl⟩:=List.getElem_of_mem hx
 simp only [labR,List.getElem_mapIdx]
 exact cellL_fn
theorem lab_lt {n el sz:Nat} {lb:Nat → Nat → Nat × Nat} {rows:List (List D)}:HB.lt n (.c el sz (labR lb rows)) = true:=by
 refine List.all_eq_true.2 fun r hr=>List.all_eq_true.2 fun x hx=>?_
 obtain ⟨i,hi,rfl⟩:=List.getElem_of_mem hr
 obtain ⟨j,hj,rfl⟩:=List.getElem_of_mem hx
 simp only [labR,List.getElem_mapIdx]
 exact cellL_lt
theorem lookL_one {l m:Nat × Nat} {d:D}:lookL [(l,d)] m = if l = m then some d else none:=by
 show cond (Nat.beq l.1 m.1 && Nat.beq l.2 m.2) (some d) none = _
 by_cases h:l = m
 ·subst h
  rw [if_pos rfl]
  simp
 ·rw [if_neg h]
  cases hc:(Nat.beq l.1 m.1 && Nat.beq l.2 m.2) with
  | false=>rfl
  | true =>
   rw [Bool.and_eq_true] at hc
   exact absurd (Prod.ext (Nat.eq_of_beq_eq_true hc.1) (Nat.eq_of_beq_eq_true hc.2)) h
theorem up_lab {el sz:Nat} {lb:Nat → Nat → Nat × Nat} {rows:List (List D)} {i j:Nat} {d':D} {r:List D} (hr:rows[i]? = some r) (hz:∀ r ∈ rows,r.length = sz) (hj:j < sz) (hi:∀ i j i' j',j < sz → j' < sz → lb i j = lb i' j' → i = i' ∧ j = j')
  (h1:∃ tk n q,r[j]? = some (.li tk n q)) (h2:∃ tk n q,d' = .li tk n q):upH [(lb i j,d')] (.c el sz (labR lb rows)) = .c el sz (labR lb (rows.set i (r.set j d'))):=by
 have hlt:∀ {a b:Nat} {d:D},cellAt rows a b = some d → b < sz:=by
  intro a b d hd
  obtain ⟨r,g1,g2⟩:=Option.bind_eq_some_iff.1 hd
  have:=hz r (List.mem_of_getElem? g1)
  have:=(List.getElem?_eq_some_iff.1 g2).1
  omega
 have key:∀ a b,cellAt ((labR lb rows).map (·.map (upT [(lb i j,d')]))) a b = cellAt (labR lb (rows.set i (r.set j d'))) a b:=by
  intro a b
  rw [cellAt_map,labR_cell,labR_cell,rowAt_set]
  have hil:i < rows.length:=(List.getElem?_eq_some_iff.1 hr).1
  by_cases hab:a = i ∧ b = j
  ·obtain ⟨rfl,rfl⟩:=hab
   rw [if_pos ⟨rfl,hil⟩]
   obtain ⟨t,n,q,h3⟩:=h1
   have hbl:=(List.getElem?_eq_some_iff.1 h3).1
   have e:cellAt rows a b = some (.li t n q):=by rw [cellAt_of_row hr];exact h3
   rw [e]
   obtain ⟨t',n',q',rfl⟩:=h2
   simp [hbl,cellL,upT,lookL_one]
  ·have e:(if a = i ∧ i < rows.length then (r.set j d')[b]? else cellAt rows a b) = cellAt rows a b:=by
    split
    ·rename_i h
     obtain ⟨rfl,_⟩:=h
     rw [List.getElem?_set_ne (by omega),cellAt_of_row hr]
    ·rfl
   rw [e]
   cases hd:cellAt rows a b with
   | none=>rfl
   | some d =>
    simp only [Option.map_some,Option.some.injEq]
    cases d with
    | v x=>rfl
    | _ =>
     show upT _ (.ow (lb a b) _) = .ow (lb a b) _
     unfold upT
     simp only [lookL_one]
     rw [if_neg (fun e=>hab ⟨(hi i j a b hj (hlt hd) e).1.symm,(hi i j a b hj (hlt hd) e).2.symm⟩)]
 show HB.c el sz ((labR lb rows).map (·.map (upT [(lb i j,d')]))) = _
 congr 1
 apply List.ext_getElem?
 intro a
 have hla:((labR lb rows).map (·.map (upT [(lb i j,d')]))).length = (labR lb (rows.set i (r.set j d'))).length:=by simp [labR_len]
 by_cases ha:a < rows.length
 ·have ha1:a < ((labR lb rows).map (·.map (upT [(lb i j,d')]))).length:=by simpa [labR_len] using ha
  rw [List.getElem?_eq_getElem ha1,List.getElem?_eq_getElem (by omega)]
  congr 1
  apply List.ext_getElem?
  intro b
  have h3:=key a b
  unfold cellAt at h3
  rw [List.getElem?_eq_getElem ha1,List.getElem?_eq_getElem (by omega)] at h3
  exact h3
 ·rw [List.getElem?_eq_none (by simp [labR_len];omega),List.getElem?_eq_none (by rw [labR_len];simp;omega)]
theorem tree_flat {f:Nat × Nat → Option (Nat × Nat)} {o:Nat × Nat} {rows:List (List D)} (h:∀ r ∈ rows,∀ x ∈ r,∃ u,x = .v u):TreeR f o (rows.map (·.map .d)) rows:=by
 have hc:∀ (i j:Nat) d,cellAt rows i j = some d → ∃ u,d = .v u:=by
  intro i j d hd
  obtain ⟨r,h1,h2⟩:=Option.bind_eq_some_iff.1 hd
  exact h r (List.mem_of_getElem? h1) d (List.mem_of_getElem? h2)
 refine ⟨by simp,fun i j d hd=>?_,fun i r r' hr hr'=>?_,fun i j i' j' l d d' h1 h2=>?_⟩
 ·obtain ⟨u,rfl⟩:=hc i j d hd
  exact .inl ⟨u,by rw [cellAt_map,hd];rfl,.inl rfl⟩
 ·rw [List.getElem?_map,hr'] at hr
  cases hr
  simp
 ·rw [cellAt_map] at h1
  obtain ⟨e,_,h3⟩:=Option.map_eq_some_iff.1 h1
  cases h3
end Go.Proofs.YtijldkknhphgcaaGreat.Pv
end

section
/- Copies of the arguments: graphs. No condition. -/
set_option linter.unusedVariables false
set_option linter.unusedSimpArgs false
namespace Go.Proofs.YtijldkknhphgcaaGreat.Pv
open Go.RowKit
def nodCon:Con:=⟨Nod,fun n=>[(true,rowN n)],fun n=>LsOk n.v,fun _ n=>.one (.p true (rowN n)),false⟩
theorem toNode_valid:Valid Tryz.prog 70 nodCon:=by
 refine valid_cell T (r:=2) (t:=73) nodCon rfl Tryz.func70 rfl rfl rfl (fun _=>Nat.le_of_ble_eq_true rfl) ?_
 rintro (n:Nod) (hp:LsOk n.v) nm nx
 ((conv=>whnf);repeat'((first|refine zo T rfl ?_|refine zl ?_);conv=>whnf))
 refine .inl ⟨ratsCon,n.v,toRatS_valid,hp,.cons (.same _ _) .nil,?_⟩
 ((conv=>whnf);repeat'((first|refine zo T rfl ?_|refine zl ?_);conv=>whnf))
 exact W_ret ⟨.inr rfl,1,rowN n,rfl,rfl,rfl,.one (.same _ _ _ rfl rfl)⟩
def nodsCon:Con:=⟨List Nod,fun l=>[(false,[nodsD l])],NsOk,fun _ l=>.one (.p false [nodsD l]),false⟩
def toNods (l:List Nod) (nx k:Nat):St:=⟨[(0,.one (.p false [nodsD l])),(3,.one (.o false [.sl 0 0 l.length l.length])),(4,int .i64 k)],[.p 73 6 (fill rowN [.v (.int .i64 0),.v (.int .i64 0),.v (.int .i64 0),.v (.int .i64 0),.v (.int .i64 0),.v (.slice none 0 0)] l k)],23,nx,0⟩
theorem toNodeS_valid:Valid Tryz.prog 37 nodsCon:=by
 refine valid_intro (ts:=[2]) nodsCon Tryz.func37 rfl rfl rfl (by decide) (fun _=>Nat.le_of_ble_eq_true rfl) ?_
 rintro (l:List Nod) (hp:NsOk l) nm nx
 have hl:=hp.1
 have hlen:(l.map rowN).length = l.length:=by simp
 ((conv=>whnf);repeat'((first|refine zo T rfl ?_|refine zl ?_);conv=>whnf))
 refine ⟨rfl,Int.natCast_nonneg _,by show ((l.map rowN).length:Int) * 64 ≤ _;omega,by show ((l.map rowN).length:Int) ≤ _;omega,?_⟩
 ((conv=>whnf);repeat'((first|refine zo T rfl ?_|refine zl ?_);conv=>whnf))
 refine W_loop (ι:=Nat) (fun k=>k ≤ l.length) (toNods l nx) (fun k=>l.length - k) 0 (Nat.zero_le _) ?_ ?_
 ·refine ⟨rfl,rfl,rfl,Nat.zero_le _,⟨?_,trivial⟩,⟨rfl,?_,rfl,trivial⟩,rfl⟩
  ·show HB.p _ _ (List.replicate (Int.toNat ((l.map rowN).length:Int)) _) = _
   rw [Int.toNat_natCast,hlen,fill_zero]
   rfl
  ·show X.one (.o false [.sl 0 0 (Int.toNat ((l.map rowN).length:Int)) (Int.toNat ((l.map rowN).length:Int))]) = _
   rw [Int.toNat_natCast,hlen]
 ·intro k hk
  ((conv=>whnf);repeat'((first|refine zo T rfl ?_|refine zl ?_);conv=>whnf))
  refine W_cond rfl (fun h=>?_) (fun h=>?_)
  ·have h1:k < l.length:=by
    have:decide ((k:Int) < (l.map rowN).length) = true:=h
    simpa using this
   have hm:l.getD k default ∈ l:=by simp [h1]
   ((conv=>whnf);repeat'((first|refine zo T rfl ?_|refine zl ?_);conv=>whnf))
   refine ⟨Int.natCast_nonneg k,by show (k:Int) < (l.map rowN).length;omega,_,rowMap l rowN _,?_⟩
   refine .inl ⟨nodCon,l.getD k default,toNode_valid,hp.2 _ hm,.cons (.same _ _) .nil,?_⟩
   refine ⟨fill_len hk,Int.natCast_nonneg k,by show (k:Int) < _;omega,?_⟩
   refine ⟨fill_len hk,?_,[.v (.int .i64 0),.v (.int .i64 0),.v (.int .i64 0),.v (.int .i64 0),.v (.int .i64 0),.v (.slice none 0 0)],?_,?_⟩
   ·show 0 + k < _
    rw [fill_len hk]
    omega
   ·show RowAt _ (0 + k) _
    rw [Nat.zero_add]
    exact fill_row h1
   ·((conv=>whnf);repeat'((first|refine zo T rfl ?_|refine zl ?_);conv=>whnf))
    refine ⟨by omega,?_⟩
    refine ⟨k + 1,h1,by omega,rfl,rfl,rfl,Nat.zero_le _,⟨?_,trivial⟩,⟨rfl,rfl,rfl,trivial⟩,rfl⟩
    show HB.p _ _ ((fill rowN _ l k).set (0 + k) (rowN (l.getD k default))) = _
    rw [Nat.zero_add,fill_set h1]
  ·have h1:k = l.length:=by
    have:decide ((k:Int) < (l.map rowN).length) = false:=h
    simp at this
    omega
   subst h1
   ((conv=>whnf);repeat'((first|refine zo T rfl ?_|refine zl ?_);conv=>whnf))
   refine W_ret ?_
   exact ⟨.inr rfl,.one (.o _ _ _ (.cons (.sl _ _ _ _ _ _ _ rfl (fill_len (Nat.le_refl _)) rfl (.inl rfl) (by rw [fill_all])) .nil))⟩
def grCon:Con:=⟨Gr,fun g=>[(true,rowG g)],GOk,fun _ g=>.one (.p true (rowG g)),false⟩
theorem toGraph_valid:Valid Tryz.prog 8 grCon:=by
 refine valid_cell T (r:=2) (t:=33) grCon rfl Tryz.func8 rfl rfl rfl (fun _=>Nat.le_of_ble_eq_true rfl) ?_
 rintro (g:Gr) (hp:GOk g) nm nx
 ((conv=>whnf);repeat'((first|refine zo T rfl ?_|refine zl ?_);conv=>whnf))
 refine .inl ⟨ratsCon,g.lo,toRatS_valid,hp.1,.cons (.same _ _) .nil,?_⟩
 ((conv=>whnf);repeat'((first|refine zo T rfl ?_|refine zl ?_);conv=>whnf))
 refine .inl ⟨ratsCon,g.hi,toRatS_valid,hp.2.1,.cons (.same _ _) .nil,?_⟩
 ((conv=>whnf);repeat'((first|refine zo T rfl ?_|refine zl ?_);conv=>whnf))
 refine .inl ⟨nodsCon,g.nodes,toNodeS_valid,hp.2.2,.cons (.same _ _) .nil,?_⟩
 ((conv=>whnf);repeat'((first|refine zo T rfl ?_|refine zl ?_);conv=>whnf))
 exact W_ret ⟨.inr rfl,1,rowG g,rfl,rfl,rfl,.one (.same _ _ _ rfl rfl)⟩
end Go.Proofs.YtijldkknhphgcaaGreat.Pv
end

section
/- Copies of the arguments: what is copied is owned. No condition. -/
set_option linter.unusedVariables false
set_option linter.unusedSimpArgs false
namespace Go.Proofs.YtijldkknhphgcaaGreat.Pv
open Go.RowKit
def nmO (l:Nat × Nat):Option (Nat × Nat):=match l.1 with
 | 0=>some l
 | _=>some (1,0)
def nmL (ps:List (Nat × Nat)) (l:Nat × Nat):Option (Nat × Nat):=match l.1 with
 | 0=>some l
 | n=>(ps.find? fun p=>Nat.beq p.1 n).map fun p=>(1,p.2)
theorem nmO_ok:NmOk nmO (fun _=>some (1,0)):=by
 refine ⟨fun j=>rfl,fun l o h=>?_,fun c o h=>by cases h;rfl⟩
 unfold nmO at h
 split at h
 ·rename_i h0;cases h;rw [h0];exact Nat.zero_le _
 ·cases h;exact Nat.le_refl _
theorem nmL_ok {ps:List (Nat × Nat)}:NmOk (nmL ps) (fun _=>none):=by
 refine ⟨fun j=>rfl,fun l o h=>?_,fun c o h=>by cases h⟩
 unfold nmL at h
 split at h
 ·rename_i h0;cases h;rw [h0];exact Nat.zero_le _
 ·obtain ⟨p,_,rfl⟩:=Option.map_eq_some_iff.1 h
  exact Nat.le_refl _
theorem endList {args after:List X} {s:St} {c el sz n:Nat} {g:HB} {rs:List (List S)} {ds:List (List D)} (hg:s.H[c]? = some g) (hb:HBis g el sz rs) (ht:rs.length = n) (hf:el ≠ fixT) (hT:TreeR nmO (1,0) rs ds) (ha:AftOk s 0 args after) :
  EndM args after (.one (.o false [.ow (1,0) (.li none sz ds)])) s (.one (.o false [.sl c 0 n n])) :=
 ⟨nmO,fun _=>some (1,0),nmO_ok,.one _ _ false _ _ rfl rfl ⟨.sl c el sz n g rs ds hg hb ht hf rfl hT,trivial⟩,ha⟩
def limM:ConM:=⟨List Nat,Lok,fun l=>[.one (.p false [limR l])],fun l=>[.one (.p false [limR l])],fun l=>.one (.o false [.ow (1,0) (limR l)])⟩
theorem toUint32SM:ValidM Tryz.prog 79 limM:=by
 refine validM_intro (ts:=[2]) limM Tryz.func79 rfl rfl rfl (by decide) (fun _=>Nat.le_of_ble_eq_true rfl) ?_
 rintro (l:List Nat) (hp:Lok l)
 have hl:=hp.2
 have hlen:(l.map limRow).length = l.length:=by simp
 ((conv=>whnf);repeat'((first|refine zo T rfl ?_|refine zl ?_);conv=>whnf))
 refine ⟨rfl,Int.natCast_nonneg _,by show ((l.map limRow).length:Int) * 4 ≤ _;omega,by show ((l.map limRow).length:Int) ≤ _;omega,?_⟩
 ((conv=>whnf);repeat'((first|refine zo T rfl ?_|refine zl ?_);conv=>whnf))
 refine W_loop (ι:=Nat) (fun k=>k ≤ l.length) (toLim l 2) (fun k=>l.length - k) 0 (Nat.zero_le _) ?_ ?_
 ·refine ⟨rfl,rfl,rfl,Nat.zero_le _,⟨?_,trivial⟩,⟨rfl,?_,rfl,trivial⟩,rfl⟩
  ·show HB.p _ _ (List.replicate (Int.toNat ((l.map limRow).length:Int)) _) = _
   rw [Int.toNat_natCast,hlen,fill_zero]
   rfl
  ·show X.one (.o false [.sl 0 0 (Int.toNat ((l.map limRow).length:Int)) (Int.toNat ((l.map limRow).length:Int))]) = _
   rw [Int.toNat_natCast,hlen]
 ·intro k hk
  ((conv=>whnf);repeat'((first|refine zo T rfl ?_|refine zl ?_);conv=>whnf))
  refine W_cond rfl (fun h=>?_) (fun h=>?_)
  ·have h1:k < l.length:=by simpa using h
   ((conv=>whnf);repeat'((first|refine zo T rfl ?_|refine zl ?_);conv=>whnf))
   refine ⟨Int.natCast_nonneg k,by show (k:Int) < (l.map limRow).length;omega,_,rowMap l limRow _,?_⟩
   refine ⟨fill_len hk,Int.natCast_nonneg k,by show (k:Int) < _;omega,?_⟩
   refine ⟨fill_len hk,?_,[.v (.int .u32 0)],?_,?_⟩
   ·show 0 + k < _
    rw [fill_len hk]
    omega
   ·show RowAt _ (0 + k) _
    rw [Nat.zero_add]
    exact fill_row h1
   ·((conv=>whnf);repeat'((first|refine zo T rfl ?_|refine zl ?_);conv=>whnf))
    refine ⟨by omega,?_⟩
    refine ⟨k + 1,h1,by omega,rfl,rfl,rfl,Nat.zero_le _,⟨?_,trivial⟩,⟨rfl,rfl,rfl,trivial⟩,rfl⟩
    show HB.p _ _ ((fill limRow _ l k).set (0 + k) (limRow (l.getD k default))) = _
    rw [Nat.zero_add,fill_set h1]
  ·have h1:k = l.length:=by
    have:decide ((k:Int) < (l.map limRow).length) = false:=h
    simp at this
    omega
   subst h1
   ((conv=>whnf);repeat'((first|refine zo T rfl ?_|refine zl ?_);conv=>whnf))
   refine W_ret ⟨.inr rfl,endList (ds:=l.map limRow) rfl (.inr ⟨_,rfl,rfl⟩) (by rw [List.length_map];exact fill_len (Nat.le_refl _)) (by decide) ?_ ⟨.inl ⟨rfl,rfl⟩,trivial⟩⟩
   rw [fill_all]
   refine tree_flat fun r hr x hx=>?_
   obtain ⟨y,_,rfl⟩:=List.mem_map.1 hr
   simp [limRow] at hx
   exact ⟨_,hx⟩
def ratM:ConM:=⟨RtD,Rok,fun r=>[.one (.p true (rowR r))],fun r=>[.one (.p true (rowR r))],fun r=>.one (.o true [.d (.v (.bool r.1)),.ow (1,1) (limR r.2.1),.ow (1,2) (limR r.2.2)])⟩
theorem toRatM:ValidM Tryz.prog 48 ratM:=by
 refine validM_cell T (r:=2) (t:=69) ratM rfl Tryz.func48 rfl rfl rfl (fun _=>Nat.le_of_ble_eq_true rfl) ?_
 rintro (q:RtD) (hp:Rok q)
 ((conv=>whnf);repeat'((first|refine zo T rfl ?_|refine zl ?_);conv=>whnf))
 refine .inr (.inr (.inr ⟨_,rfl,call_new limM q.2.1 toUint32SM hp.1 (.cons (.own _ _ rfl) .nil) rfl ?_⟩))
 ((conv=>whnf);repeat'((first|refine zo T rfl ?_|refine zl ?_);conv=>whnf))
 refine .inr (.inr (.inr ⟨_,rfl,call_new limM q.2.2 toUint32SM hp.2 (.cons (.own _ _ rfl) .nil) rfl ?_⟩))
 ((conv=>whnf);repeat'((first|refine zo T rfl ?_|refine zl ?_);conv=>whnf))
 exact W_ret ⟨.inr rfl,1,_,rfl,rfl,rfl,nmL [(2,1),(3,2)],fun _=>none,nmL_ok,.one _ _ true _ _ rfl rfl ⟨.v _ _ rfl,.ow _ _ _ rfl rfl,.ow _ _ _ rfl rfl,trivial⟩,.inl ⟨rfl,rfl⟩,trivial⟩
def lbN (i j:Nat):Nat × Nat:=(2 + i,j)
theorem lbN_inj {sz:Nat}:∀ i j i' j',j < sz → j' < sz → lbN i j = lbN i' j' → i = i' ∧ j = j':=by
 intro i j i' j' _ _ h
 have h1:2 + i = 2 + i':=congrArg Prod.fst h
 have h2:j = j':=congrArg Prod.snd h
 omega
def ratsM:ConM:=⟨List RtD,LsOk,fun l=>[.one (.p false [ratsR l])],fun l=>[.one (.p false [ratsR l])],fun l=>.one (.o false [.ow (1,0) (ratsR l)])⟩
def ratsMSt (l:List RtD) (k:Nat):St:=⟨[(0,.one (.p false [ratsR l])),(3,.one (.o false [.sl 0 0 l.length l.length])),(4,int .i64 k)],[.c 69 3 (labR lbN (fill rowR [.v (.bool false),.v (.slice none 0 0),.v (.slice none 0 0)] l k))],23,2 + k,0⟩
theorem toRatSM:ValidM Tryz.prog 17 ratsM:=by
 refine validM_intro (ts:=[2]) ratsM Tryz.func17 rfl rfl rfl (by decide) (fun _=>Nat.le_of_ble_eq_true rfl) ?_
 rintro (l:List RtD) (hp:LsOk l)
 have hl:=hp.1
 have hlen:(l.map rowR).length = l.length:=by simp
 ((conv=>whnf);repeat'((first|refine zo T rfl ?_|refine zl ?_);conv=>whnf))
 refine ⟨rfl,Int.natCast_nonneg _,by show ((l.map rowR).length:Int) * 56 ≤ _;omega,by show ((l.map rowR).length:Int) ≤ _;omega,?_⟩
 ((conv=>whnf);repeat'((first|refine zo T rfl ?_|refine zl ?_);conv=>whnf))
 refine W_asC 0 rfl ?_
 refine W_loop (ι:=Nat) (fun k=>k ≤ l.length) (ratsMSt l) (fun k=>l.length - k) 0 (Nat.zero_le _) ?_ ?_
 ·refine ⟨rfl,rfl,rfl,Nat.zero_le _,⟨?_,trivial⟩,⟨rfl,?_,rfl,trivial⟩,?_⟩
  ·show HB.c _ _ ((List.replicate (Int.toNat ((l.map rowR).length:Int)) _).map _) = _
   rw [Int.toNat_natCast,hlen,fill_zero]
   refine congrArg (HB.c _ _) (List.ext_getElem? fun i=>?_)
   unfold labR
   rw [List.getElem?_mapIdx,List.getElem?_map,List.getElem?_replicate,List.getElem?_replicate]
   split <;> rfl
  ·show X.one (.o false [.sl 0 0 (Int.toNat ((l.map rowR).length:Int)) (Int.toNat ((l.map rowR).length:Int))]) = _
   rw [Int.toNat_natCast,hlen]
  ·show (_ && (HB.lt 1 (.c _ _ (labR lbN _)) && true)) = true
   rw [lab_lt]
   rfl
 ·intro k hk
  have hfl:(fill rowR [.v (.bool false),.v (.slice none 0 0),.v (.slice none 0 0)] l k).length = l.length:=fill_len hk
  have hll:(labR lbN (fill rowR [.v (.bool false),.v (.slice none 0 0),.v (.slice none 0 0)] l k)).length = l.length:=labR_len.trans hfl
  ((conv=>whnf);repeat'((first|refine zo T rfl ?_|refine zl ?_);conv=>whnf))
  refine W_cond rfl (fun h=>?_) (fun h=>?_)
  ·have h1:k < l.length:=by
    have:decide ((k:Int) < (l.map rowR).length) = true:=h
    simpa using this
   have hm:l.getD k default ∈ l:=by simp [h1]
   ((conv=>whnf);repeat'((first|refine zo T rfl ?_|refine zl ?_);conv=>whnf))
   refine ⟨Int.natCast_nonneg k,by show (k:Int) < (l.map rowR).length;omega,_,rowMap l rowR _,?_⟩
   refine .inr (.inr (.inr ⟨_,rfl,call_new ratM (l.getD k default) toRatM (hp.2 _ hm) (.cons (.own _ _ rfl) .nil) rfl ?_⟩))
   refine ⟨hll,Int.natCast_nonneg k,by show (k:Int) < _;omega,?_⟩
   refine ⟨hll,?_,[.d (.v (.bool false)),.d (.v (.slice none 0 0)),.d (.v (.slice none 0 0))],?_,?_⟩
   ·show 0 + k < _
    rw [hll]
    omega
   ·show RowAt _ (0 + k) _
    rw [Nat.zero_add]
    exact lab_row (fill_row h1)
   ·((conv=>whnf);repeat'((first|refine zo T rfl ?_|refine zl ?_);conv=>whnf))
    refine ⟨by omega,?_⟩
    refine ⟨k + 1,h1,by omega,rfl,rfl,rfl,Nat.zero_le _,⟨?_,trivial⟩,⟨rfl,rfl,rfl,trivial⟩,?_⟩
    ·show HB.c _ _ ((labR lbN (fill rowR _ l k)).set (0 + k) ((rowR (l.getD k default)).mapIdx fun j d=>cellL (lbN k j) d)) = _
     rw [Nat.zero_add,lab_set,fill_set h1]
    ·show (_ && (HB.lt 1 (.c _ _ (labR lbN _)) && true)) = true
     rw [lab_lt]
     rfl
  ·have h1:k = l.length:=by
    have:decide ((k:Int) < (l.map rowR).length) = false:=h
    simp at this
    omega
   subst h1
   ((conv=>whnf);repeat'((first|refine zo T rfl ?_|refine zl ?_);conv=>whnf))
   refine W_ret ⟨.inr rfl,endList (ds:=l.map rowR) rfl (.inl rfl) hll (by decide) ?_ ⟨.inl ⟨rfl,rfl⟩,trivial⟩⟩
   rw [fill_all]
   refine tree_lab (sz:=3) (fun r hr=>?_) (fun i j=>?_) lbN_inj
   ·obtain ⟨x,_,rfl⟩:=List.mem_map.1 hr
    rfl
   ·show nmO (2 + i,j) = _
    rw [Nat.add_comm]
    rfl
def nodM:ConM:=⟨Nod,fun n=>LsOk n.v,fun n=>[.one (.p true (rowN n))],fun n=>[.one (.p true (rowN n))],fun n=>.one (.o true [.d (.v (.int .i64 n.op)),.d (.v (.int .i64 n.a)),.d (.v (.int .i64 n.b)),.d (.v (.int .i64 n.k)),.d (.v (.int .i64 n.s)),.ow (1,5) (ratsR n.v)])⟩
theorem toNodeM:ValidM Tryz.prog 70 nodM:=by
 refine validM_cell T (r:=2) (t:=73) nodM rfl Tryz.func70 rfl rfl rfl (fun _=>Nat.le_of_ble_eq_true rfl) ?_
 rintro (n:Nod) (hp:LsOk n.v)
 ((conv=>whnf);repeat'((first|refine zo T rfl ?_|refine zl ?_);conv=>whnf))
 refine .inr (.inr (.inr ⟨_,rfl,call_new ratsM n.v toRatSM hp (.cons (.own _ _ rfl) .nil) rfl ?_⟩))
 ((conv=>whnf);repeat'((first|refine zo T rfl ?_|refine zl ?_);conv=>whnf))
 exact W_ret ⟨.inr rfl,1,_,rfl,rfl,rfl,nmL [(2,5)],fun _=>none,nmL_ok,.one _ _ true _ _ rfl rfl ⟨.v _ _ rfl,.v _ _ rfl,.v _ _ rfl,.v _ _ rfl,.v _ _ rfl,.ow _ _ _ rfl rfl,trivial⟩,.inl ⟨rfl,rfl⟩,trivial⟩
def nodsM:ConM:=⟨List Nod,NsOk,fun l=>[.one (.p false [nodsD l])],fun l=>[.one (.p false [nodsD l])],fun l=>.one (.o false [.ow (1,0) (nodsD l)])⟩
def nodsMSt (l:List Nod) (k:Nat):St:=⟨[(0,.one (.p false [nodsD l])),(3,.one (.o false [.sl 0 0 l.length l.length])),(4,int .i64 k)],[.c 73 6 (labR lbN (fill rowN [.v (.int .i64 0),.v (.int .i64 0),.v (.int .i64 0),.v (.int .i64 0),.v (.int .i64 0),.v (.slice none 0 0)] l k))],23,2 + k,0⟩
theorem toNodeSM:ValidM Tryz.prog 37 nodsM:=by
 refine validM_intro (ts:=[2]) nodsM Tryz.func37 rfl rfl rfl (by decide) (fun _=>Nat.le_of_ble_eq_true rfl) ?_
 rintro (l:List Nod) (hp:NsOk l)
 have hl:=hp.1
 have hlen:(l.map rowN).length = l.length:=by simp
 ((conv=>whnf);repeat'((first|refine zo T rfl ?_|refine zl ?_);conv=>whnf))
 refine ⟨rfl,Int.natCast_nonneg _,by show ((l.map rowN).length:Int) * 64 ≤ _;omega,by show ((l.map rowN).length:Int) ≤ _;omega,?_⟩
 ((conv=>whnf);repeat'((first|refine zo T rfl ?_|refine zl ?_);conv=>whnf))
 refine W_asC 0 rfl ?_
 refine W_loop (ι:=Nat) (fun k=>k ≤ l.length) (nodsMSt l) (fun k=>l.length - k) 0 (Nat.zero_le _) ?_ ?_
 ·refine ⟨rfl,rfl,rfl,Nat.zero_le _,⟨?_,trivial⟩,⟨rfl,?_,rfl,trivial⟩,?_⟩
  ·show HB.c _ _ ((List.replicate (Int.toNat ((l.map rowN).length:Int)) _).map _) = _
   rw [Int.toNat_natCast,hlen,fill_zero]
   refine congrArg (HB.c _ _) (List.ext_getElem? fun i=>?_)
   unfold labR
   rw [List.getElem?_mapIdx,List.getElem?_map,List.getElem?_replicate,List.getElem?_replicate]
   split <;> rfl
  ·show X.one (.o false [.sl 0 0 (Int.toNat ((l.map rowN).length:Int)) (Int.toNat ((l.map rowN).length:Int))]) = _
   rw [Int.toNat_natCast,hlen]
  ·show (_ && (HB.lt 1 (.c _ _ (labR lbN _)) && true)) = true
   rw [lab_lt]
   rfl
 ·intro k hk
  have hfl:(fill rowN [.v (.int .i64 0),.v (.int .i64 0),.v (.int .i64 0),.v (.int .i64 0),.v (.int .i64 0),.v (.slice none 0 0)] l k).length = l.length:=fill_len hk
  have hll:(labR lbN (fill rowN [.v (.int .i64 0),.v (.int .i64 0),.v (.int .i64 0),.v (.int .i64 0),.v (.int .i64 0),.v (.slice none 0 0)] l k)).length = l.length:=labR_len.trans hfl
  ((conv=>whnf);repeat'((first|refine zo T rfl ?_|refine zl ?_);conv=>whnf))
  refine W_cond rfl (fun h=>?_) (fun h=>?_)
  ·have h1:k < l.length:=by
    have:decide ((k:Int) < (l.map rowN).length) = true:=h
    simpa using this
   have hm:l.getD k default ∈ l:=by simp [h1]
   ((conv=>whnf);repeat'((first|refine zo T rfl ?_|refine zl ?_);conv=>whnf))
   refine ⟨Int.natCast_nonneg k,by show (k:Int) < (l.map rowN).length;omega,_,rowMap l rowN _,?_⟩
   refine .inr (.inr (.inr ⟨_,rfl,call_new nodM (l.getD k default) toNodeM (hp.2 _ hm) (.cons (.own _ _ rfl) .nil) rfl ?_⟩))
   refine ⟨hll,Int.natCast_nonneg k,by show (k:Int) < _;omega,?_⟩
   refine ⟨hll,?_,[.d (.v (.int .i64 0)),.d (.v (.int .i64 0)),.d (.v (.int .i64 0)),.d (.v (.int .i64 0)),.d (.v (.int .i64 0)),.d (.v (.slice none 0 0))],?_,?_⟩
   ·show 0 + k < _
    rw [hll]
    omega
   ·show RowAt _ (0 + k) _
    rw [Nat.zero_add]
    exact lab_row (fill_row h1)
   ·((conv=>whnf);repeat'((first|refine zo T rfl ?_|refine zl ?_);conv=>whnf))
    refine ⟨by omega,?_⟩
    refine ⟨k + 1,h1,by omega,rfl,rfl,rfl,Nat.zero_le _,⟨?_,trivial⟩,⟨rfl,rfl,rfl,trivial⟩,?_⟩
    ·show HB.c _ _ ((labR lbN (fill rowN _ l k)).set (0 + k) ((rowN (l.getD k default)).mapIdx fun j d=>cellL (lbN k j) d)) = _
     rw [Nat.zero_add,lab_set,fill_set h1]
    ·show (_ && (HB.lt 1 (.c _ _ (labR lbN _)) && true)) = true
     rw [lab_lt]
     rfl
  ·have h1:k = l.length:=by
    have:decide ((k:Int) < (l.map rowN).length) = false:=h
    simp at this
    omega
   subst h1
   ((conv=>whnf);repeat'((first|refine zo T rfl ?_|refine zl ?_);conv=>whnf))
   refine W_ret ⟨.inr rfl,endList (ds:=l.map rowN) rfl (.inl rfl) hll (by decide) ?_ ⟨.inl ⟨rfl,rfl⟩,trivial⟩⟩
   rw [fill_all]
   refine tree_lab (sz:=6) (fun r hr=>?_) (fun i j=>?_) lbN_inj
   ·obtain ⟨x,_,rfl⟩:=List.mem_map.1 hr
    rfl
   ·show nmO (2 + i,j) = _
    rw [Nat.add_comm]
    rfl
def grM:ConM:=⟨Gr,GOk,fun g=>[.one (.p true (rowG g))],fun g=>[.one (.p true (rowG g))],fun g=>.one (.o true [.d (.v (.int .i64 g.inp)),.d (.v (.int .i64 g.rnd)),.ow (1,2) (ratsR g.lo),.ow (1,3) (ratsR g.hi),.ow (1,4) (nodsD g.nodes),.d (.v (.int .i64 g.out))])⟩
theorem toGraphM:ValidM Tryz.prog 8 grM:=by
 refine validM_cell T (r:=2) (t:=33) grM rfl Tryz.func8 rfl rfl rfl (fun _=>Nat.le_of_ble_eq_true rfl) ?_
 rintro (g:Gr) (hp:GOk g)
 ((conv=>whnf);repeat'((first|refine zo T rfl ?_|refine zl ?_);conv=>whnf))
 refine .inr (.inr (.inr ⟨_,rfl,call_new ratsM g.lo toRatSM hp.1 (.cons (.own _ _ rfl) .nil) rfl ?_⟩))
 ((conv=>whnf);repeat'((first|refine zo T rfl ?_|refine zl ?_);conv=>whnf))
 refine .inr (.inr (.inr ⟨_,rfl,call_new ratsM g.hi toRatSM hp.2.1 (.cons (.own _ _ rfl) .nil) rfl ?_⟩))
 ((conv=>whnf);repeat'((first|refine zo T rfl ?_|refine zl ?_);conv=>whnf))
 refine .inr (.inr (.inr ⟨_,rfl,call_new nodsM g.nodes toNodeSM hp.2.2 (.cons (.own _ _ rfl) .nil) rfl ?_⟩))
 ((conv=>whnf);repeat'((first|refine zo T rfl ?_|refine zl ?_);conv=>whnf))
 exact W_ret ⟨.inr rfl,1,_,rfl,rfl,rfl,nmL [(2,2),(3,3),(4,4)],fun _=>none,nmL_ok,.one _ _ true _ _ rfl rfl ⟨.v _ _ rfl,.v _ _ rfl,.ow _ _ _ rfl rfl,.ow _ _ _ rfl rfl,.ow _ _ _ rfl rfl,.v _ _ rfl,trivial⟩,.inl ⟨rfl,rfl⟩,trivial⟩
end Go.Proofs.YtijldkknhphgcaaGreat.Pv
end

section
/- The laws' marks on what is owned. No condition. -/
set_option linter.unusedVariables false
set_option linter.unusedSimpArgs false
namespace Go.Proofs.YtijldkknhphgcaaGreat.Pv
open Go.RowKit
theorem mix_row {α:Type} [Inhabited α] {f:α → List D} {a l:List α} {i:Nat} (ha:a.length = i) (hi:i < l.length):RowAt ((a ++ l.drop i).map f) i (f (l.getD i default)):=⟨fun _=>by
 rw [List.getElem?_map,List.getElem?_append_right (by omega),ha,Nat.sub_self,List.getElem?_drop]
 simp [hi]⟩
theorem mix_set {α:Type} {f:α → List D} {a l:List α} {i:Nat} {y:α} (ha:a.length = i) (hi:i < l.length):((a ++ l.drop i).map f).set i (f y) = ((a ++ [y]) ++ l.drop (i + 1)).map f:=by
 rw [List.drop_eq_getElem_cons hi,← List.map_set,List.set_append_right _ _ (by omega),ha,Nat.sub_self,List.set_cons_zero]
 simp
theorem mix_len {α:Type} {f:α → List D} {a l:List α} {i:Nat} (ha:a.length = i) (hi:i ≤ l.length):((a ++ l.drop i).map f).length = l.length:=by simp;omega
theorem wrap_u32 (n:Nat):IntKind.u32.wrap (n:Int) = ((n % 4294967296:Nat):Int):=by
 rw [show IntKind.u32.wrap (n:Int) = (n:Int) % 4294967296 from rfl]
 omega
theorem lookL_self {l:Nat × Nat} {d:D}:∀ m ∈ [l],lookL [(l,d)] m ≠ none:=by
 intro m hm
 rw [List.mem_singleton] at hm
 rw [hm,lookL_one,if_pos rfl]
 exact fun h=>by cases h
def mkU (k n:Nat):List Nat:=(List.range n).map fun i=>(k + i) % 4294967296
theorem mkU_len {k n:Nat}:(mkU k n).length = n:=by simp [mkU]
theorem mkU_succ {k n:Nat}:mkU k (n + 1) = mkU k n ++ [(k + n) % 4294967296]:=by unfold mkU;rw [List.range_succ,List.map_append];rfl
def markUM:ConM:=⟨List Nat × Nat,fun g=>Lok g.1 ∧ g.2 ≤ 4611686018427387904,fun g=>[.one (.o false [.ow (0,0) (limR g.1)]),int .i64 g.2],fun g=>[.one (.o false [.ow (0,0) (limR (mkU g.2 g.1.length))]),int .i64 g.2],fun g=>int .i64 ((g.2 + g.1.length:Nat):Int)⟩
def mixU (l:List Nat) (k i:Nat):List (List D):=(mkU k i ++ l.drop i).map limRow
def markUSt (el:Nat) (l:List Nat) (k i:Nat):St:=⟨[(0,.one (.o false [.sl 0 0 l.length l.length])),(1,int .i64 ((k + i:Nat):Int)),(5,int .i64 i)],[.c el 1 (labR (lb0 1) (mixU l k i))],20,2,1⟩
theorem markU_M:ValidM Tryz.prog 52 markUM:=by
 refine validM_list (r:=4) markUM 1 (fun g=>g.1.map limRow) (fun g=>(mkU g.2 g.1.length).map limRow) (fun g=>[(false,[.v (.int .i64 g.2)])]) (fun g=>.int .i64 ((g.2 + g.1.length:Nat):Int)) (fun _=>rfl) (fun _=>rfl) (fun _=>rfl) Tryz.func52 rfl rfl rfl (fun _=>Nat.le_of_ble_eq_true rfl) ?_
 rintro ⟨l,k⟩ ⟨(hp:Lok l),(hk:k ≤ 4611686018427387904)⟩ el hel
 have hl:=hp.2
 have hlm:(l.map limRow).length = l.length:=List.length_map ..
 ((conv=>whnf);repeat'((first|refine zo T rfl ?_|refine zl ?_);conv=>whnf))
 refine W_loop (ι:=Nat) (fun i=>i ≤ l.length) (markUSt el l k) (fun i=>l.length - i) 0 (Nat.zero_le _) ?_ ?_
 ·refine ⟨rfl,rfl,rfl,Nat.le_refl _,⟨rfl,trivial⟩,⟨?_,rfl,rfl,trivial⟩,?_⟩
  ·show X.one (.o false [.sl 0 0 (l.map limRow).length (l.map limRow).length]) = _
   rw [hlm]
  ·show (_ && (HB.lt 1 (.c _ _ (labR (lb0 1) _)) && true)) = true
   rw [lab_lt]
   rfl
 intro i hi
 have hml:(labR (lb0 1) (mixU l k i)).length = l.length:=labR_len.trans (mix_len mkU_len hi)
 ((conv=>whnf);repeat'((first|refine zo T rfl ?_|refine zl ?_);conv=>whnf))
 refine W_cond rfl (fun h=>?_) (fun h=>?_)
 ·have h1:i < l.length:=by
   have:decide ((i:Int) < (l.length:Int)) = true:=h
   simpa using this
  ((conv=>whnf);repeat'((first|refine zo T rfl ?_|refine zl ?_);conv=>whnf))
  refine ⟨hml,Int.natCast_nonneg i,by show (i:Int) < (l.length:Int);omega,?_⟩
  ((conv=>whnf);repeat'((first|refine zo T rfl ?_|refine zl ?_);conv=>whnf))
  refine ⟨hml,by show 0 + (i:Int).toNat < _;rw [hml];omega,[.d (.v (.int .u32 ((l.getD i default:Nat):Int)))],?_,?_⟩
  ·rw [Int.toNat_natCast,Nat.zero_add]
   exact lab_row (mix_row mkU_len h1)
  ((conv=>whnf);repeat'((first|refine zo T rfl ?_|refine zl ?_);conv=>whnf))
  refine ⟨by show _ ≤ ((k + i:Nat):Int) + 1 ∧ ((k + i:Nat):Int) + 1 ≤ _;omega,?_⟩
  ((conv=>whnf);repeat'((first|refine zo T rfl ?_|refine zl ?_);conv=>whnf))
  refine ⟨by show _ ≤ (i:Int) + 1 ∧ (i:Int) + 1 ≤ _;omega,?_⟩
  ((conv=>whnf);repeat'((first|refine zo T rfl ?_|refine zl ?_);conv=>whnf))
  refine ⟨i + 1,by omega,by omega,rfl,rfl,rfl,Nat.le_refl _,⟨?_,trivial⟩,⟨rfl,rfl,rfl,trivial⟩,?_⟩
  ·show HB.c _ _ ((labR (lb0 1) (mixU l k i)).set (0 + (i:Int).toNat) [.d (.v (.int .u32 (IntKind.u32.wrap ((k + i:Nat):Int))))]) = .c _ _ (labR (lb0 1) (mixU l k (i + 1)))
   rw [wrap_u32,Int.toNat_natCast,Nat.zero_add]
   refine congrArg (HB.c _ _) ((lab_set (r:=limRow ((k + i) % 4294967296))).trans (congrArg (labR _) ?_))
   unfold mixU
   rw [mix_set mkU_len h1,mkU_succ]
  ·show (_ && (HB.lt 1 (.c _ _ (labR (lb0 1) _)) && true)) = true
   rw [lab_lt]
   rfl
 ·have h1:i = l.length:=by
   have:decide ((i:Int) < (l.length:Int)) = false:=h
   simp at this
   omega
  subst h1
  ((conv=>whnf);repeat'((first|refine zo T rfl ?_|refine zl ?_);conv=>whnf))
  refine W_ret ⟨.inr rfl,rfl,_,_,rfl,.inl rfl,hml.trans hlm.symm,?_⟩
  have e:mixU l k l.length = (mkU k l.length).map limRow:=by unfold mixU;simp
  rw [e]
  exact tree_lab (sz:=1) (fun r hr=>by obtain ⟨x,_,rfl⟩:=List.mem_map.1 hr;rfl) (fun _ _=>rfl) (fun i j i' j' h1 h2 h=>lb0_inj h1 h2 h)
def mkR (k:Nat) (r:RtD):RtD:=(k % 3 == 0,mkU (k + 1) r.2.1.length,mkU (k + 1 + r.2.1.length) r.2.2.length)
def cntR (r:RtD):Nat:=1 + r.2.1.length + r.2.2.length
def mkRs:Nat → List RtD → List RtD
 | _,[]=>[]
 | k,x :: r=>mkR k x :: mkRs (k + cntR x) r
def cntRs:List RtD → Nat
 | []=>0
 | x :: r=>cntR x + cntRs r
theorem mkRs_len:∀ {k:Nat} {l:List RtD},(mkRs k l).length = l.length
 | _,[]=>rfl
 | k,x :: r=>by rw [mkRs,List.length_cons,List.length_cons,mkRs_len]
theorem mkRs_snoc:∀ {k:Nat} {l:List RtD} {x:RtD},mkRs k (l ++ [x]) = mkRs k l ++ [mkR (k + cntRs l) x]
 | _,[],_=>rfl
 | k,y :: r,x=>by
  show mkR k y :: mkRs (k + cntR y) (r ++ [x]) = _
  rw [mkRs_snoc,Nat.add_assoc]
  rfl
theorem cntRs_snoc:∀ {l:List RtD} {x:RtD},cntRs (l ++ [x]) = cntRs l + cntR x
 | [],x=>by simp [cntRs]
 | y :: r,x=>by
  show cntR y + cntRs (r ++ [x]) = cntR y + cntRs r + _
  rw [cntRs_snoc,Nat.add_assoc]
theorem cntRs_take (l:List RtD) (i:Nat):cntRs (l.take i) ≤ cntRs l:=by
 induction l generalizing i with
 | nil=>simp
 | cons x r ih =>
  cases i with
  | zero=>exact Nat.zero_le _
  | succ i=>exact Nat.add_le_add_left (ih i) _
theorem cntRs_le {l:List RtD} {b:Nat} (h:∀ x ∈ l,cntR x ≤ b):cntRs l ≤ l.length * b:=by
 induction l with
 | nil=>simp [cntRs]
 | cons x r ih =>
  have h1:=h x (by simp)
  have h2:=ih fun y hy=>h y (by simp [hy])
  show cntR x + cntRs r ≤ (r.length + 1) * b
  rw [Nat.add_mul]
  omega
def markRsM:ConM:=⟨List RtD × Nat,fun g=>LsOk g.1 ∧ g.2 + cntRs g.1 ≤ 4611686018427387904,fun g=>[.one (.o false [.ow (0,0) (ratsR g.1)]),int .i64 g.2],fun g=>[.one (.o false [.ow (0,0) (ratsR (mkRs g.2 g.1))]),int .i64 g.2],fun g=>int .i64 ((g.2 + cntRs g.1:Nat):Int)⟩
def mixR (l:List RtD) (k i:Nat):List (List D):=(mkRs k (l.take i) ++ l.drop i).map rowR
def markRSt (el n:Nat) (rows:List (List D)) (k i nx:Nat):St:=⟨[(0,.one (.o false [.sl 0 0 n n])),(1,int .i64 (k:Int)),(5,int .i64 i)],[.c el 3 (labR (lb0 3) rows)],36,nx,1⟩
theorem row3 {rows:List (List D)} {i:Nat} {b:Bool} {x y:List Nat} (h:RowAt rows i (rowR (b,x,y))):RowAt (labR (lb0 3) rows) i [.d (.v (.bool b)),.ow (0,i * 3 + 1) (limR x),.ow (0,i * 3 + 2) (limR y)]:=lab_row h
theorem rowAt_setv {rows:List (List D)} {i:Nat} {r:List D} (hi:i < rows.length):RowAt (rows.set i r) i r:=⟨fun _=>by simp [hi]⟩
theorem rows_len {rows:List (List D)} {i n:Nat} {r:List D} (h:∀ r ∈ rows,r.length = n) (hr:r.length = n):∀ q ∈ rows.set i r,q.length = n:=fun q hq=>by
 rcases List.mem_or_eq_of_mem_set hq with hq | rfl
 ·exact h q hq
 ·exact hr
set_option maxHeartbeats 4000000 in
theorem markRs_M:ValidM Tryz.prog 20 markRsM:=by
 refine validM_list (r:=4) markRsM 3 (fun g=>g.1.map rowR) (fun g=>(mkRs g.2 g.1).map rowR) (fun g=>[(false,[.v (.int .i64 g.2)])]) (fun g=>.int .i64 ((g.2 + cntRs g.1:Nat):Int)) (fun _=>rfl) (fun _=>rfl) (fun _=>rfl) Tryz.func20 rfl rfl rfl (fun _=>Nat.le_of_ble_eq_true rfl) ?_
 rintro ⟨l,k⟩ ⟨(hp:LsOk l),(hk:k + cntRs l ≤ 4611686018427387904)⟩ el hel
 have hl:=hp.1
 have hlm:(l.map rowR).length = l.length:=List.length_map ..
 ((conv=>whnf);repeat'((first|refine zo T rfl ?_|refine zl ?_);conv=>whnf))
 refine W_loop (ι:=Nat) (fun i=>i ≤ l.length) (fun i=>markRSt el l.length (mixR l k i) (k + cntRs (l.take i)) i (2 + 2 * i)) (fun i=>l.length - i) 0 (Nat.zero_le _) ?_ ?_
 ·refine ⟨rfl,rfl,rfl,Nat.le_refl _,⟨rfl,trivial⟩,⟨?_,rfl,rfl,trivial⟩,?_⟩
  ·show X.one (.o false [.sl 0 0 (l.map rowR).length (l.map rowR).length]) = _
   rw [hlm]
  ·show (_ && (HB.lt 1 (.c _ _ (labR (lb0 3) _)) && true)) = true
   rw [lab_lt]
   rfl
 intro i hi
 have hmr:(mkRs k (l.take i)).length = i:=by rw [mkRs_len,List.length_take];omega
 have hmx:(mixR l k i).length = l.length:=mix_len hmr hi
 have hml:(labR (lb0 3) (mixR l k i)).length = l.length:=labR_len.trans hmx
 ((conv=>whnf);repeat'((first|refine zo T rfl ?_|refine zl ?_);conv=>whnf))
 refine W_cond rfl (fun h=>?_) (fun h=>?_)
 ·have h1:i < l.length:=by
   have:decide ((i:Int) < (l.length:Int)) = true:=h
   simpa using this
  obtain ⟨⟨b,x,y⟩,hq⟩:∃ q,q = l.getD i default:=⟨_,rfl⟩
  have hqm:(b,x,y) ∈ l:=by rw [hq];simp [h1]
  have hqo:Rok (b,x,y):=hp.2 _ hqm
  have htk:l.take (i + 1) = l.take i ++ [(b,x,y)]:=by rw [take_snoc l h1,← hq]
  have hct:cntRs (l.take (i + 1)) = cntRs (l.take i) + (1 + x.length + y.length):=by rw [htk,cntRs_snoc];rfl
  have hcl:=cntRs_take l (i + 1)
  obtain ⟨kk,hkk⟩:∃ kk,kk = k + cntRs (l.take i):=⟨_,rfl⟩
  have hxl:x.length ≤ 1048576:=hqo.1.2
  have hyl:y.length ≤ 1048576:=hqo.2.2
  have hb0:kk + (1 + x.length + y.length) ≤ 4611686018427387904:=by omega
  have r0:RowAt (mixR l k i) i (rowR (b,x,y)):=by rw [hq];exact mix_row hmr h1
  have hz0:∀ r ∈ mixR l k i,r.length = 3:=fun r hr=>by obtain ⟨q,_,rfl⟩:=List.mem_map.1 hr;rfl
  rw [← hkk]
  ((conv=>whnf);repeat'((first|refine zo T rfl ?_|refine zl ?_);conv=>whnf))
  refine ⟨⟨by show (0:Int) ≤ (kk:Int);omega,by decide⟩,?_⟩
  ((conv=>whnf);repeat'((first|refine zo T rfl ?_|refine zl ?_);conv=>whnf))
  refine ⟨hml,Int.natCast_nonneg i,by show (i:Int) < (l.length:Int);omega,?_⟩
  ((conv=>whnf);repeat'((first|refine zo T rfl ?_|refine zl ?_);conv=>whnf))
  refine ⟨hml,by show 0 + (i:Int).toNat < _;rw [hml];omega,_,(by rw [Int.toNat_natCast,Nat.zero_add];exact row3 r0),?_⟩
  ((conv=>whnf);repeat'((first|refine W_seq ?_|refine W_block ?_|refine W_skip ?_|refine W_exit ?_|refine zl ?_);conv=>whnf))
  -- the sign is marked
  obtain ⟨b1,hb1⟩:∃ b1:Bool,b1 = (kk % 3 == 0):=⟨_,rfl⟩
  refine W_le (markRSt el l.length ((mixR l k i).set i (rowR (b1,x,y))) kk i (2 + 2 * i)) ⟨rfl,rfl,rfl,Nat.le_refl _,⟨?_,trivial⟩,⟨rfl,rfl,rfl,trivial⟩,?_⟩ ?_
  ·show HB.c _ _ ((labR (lb0 3) (mixR l k i)).set (0 + (i:Int).toNat) [.d (.v (.bool ((kk:Int) % 3 == 0))),.ow (0,i * 3 + 1) (limR x),.ow (0,i * 3 + 2) (limR y)]) = .c _ _ (labR (lb0 3) ((mixR l k i).set i (rowR (b1,x,y))))
   have e1:((kk:Int) % 3 == 0) = b1:=by
    rw [hb1,Bool.eq_iff_iff,beq_iff_eq,beq_iff_eq]
    omega
   rw [e1,Int.toNat_natCast,Nat.zero_add]
   exact congrArg (HB.c _ _) (lab_set (lb:=lb0 3) (r:=rowR (b1,x,y)))
  ·show (_ && (HB.lt 1 (.c _ _ (labR (lb0 3) _)) && true)) = true
   rw [lab_lt]
   rfl
  obtain ⟨R1,hR1⟩:∃ R1,R1 = (mixR l k i).set i (rowR (b1,x,y)):=⟨_,rfl⟩
  have l1:R1.length = l.length:=by rw [hR1,List.length_set];exact hmx
  have m1:(labR (lb0 3) R1).length = l.length:=labR_len.trans l1
  have z1:∀ r ∈ R1,r.length = 3:=by rw [hR1];exact rows_len hz0 rfl
  have r1:RowAt R1 i (rowR (b1,x,y)):=by rw [hR1];exact rowAt_setv (by omega)
  rw [← hR1]
  ((conv=>whnf);repeat'((first|refine zo T rfl ?_|refine zl ?_);conv=>whnf))
  refine ⟨by show _ ≤ (kk:Int) + 1 ∧ (kk:Int) + 1 ≤ _;omega,?_⟩
  ((conv=>whnf);repeat'((first|refine zo T rfl ?_|refine zl ?_);conv=>whnf))
  refine ⟨m1,Int.natCast_nonneg i,by show (i:Int) < (l.length:Int);omega,?_⟩
  ((conv=>whnf);repeat'((first|refine zo T rfl ?_|refine zl ?_);conv=>whnf))
  refine ⟨m1,by show 0 + (i:Int).toNat < _;rw [m1];omega,_,(by rw [Int.toNat_natCast,Nat.zero_add];exact row3 r1),?_⟩
  ((conv=>whnf);repeat'((first|refine zo T rfl ?_|refine zl ?_);conv=>whnf))
  refine .inr (.inr (.inr ⟨_,rfl,call_mark markUM (x,kk + 1) [(0,i * 3 + 1)] markU_M ⟨hqo.1,by show kk + 1 ≤ _;omega⟩ (by simp) (fun l hl=>by rw [List.mem_singleton] at hl;rw [hl];show 0 < 2 + 2 * i;omega) (by show (fnB (.c _ _ (labR (lb0 3) R1)) && true) = true;rw [lab_fn];rfl) (.cons (.own _ _ rfl) (.cons (.own _ _ rfl) .nil)) lookL_self rfl
   [(0,.one (.o false [.sl 0 0 l.length l.length])),(5,int .i64 i)] [.c el 3 (labR (lb0 3) (R1.set i (rowR (b1,mkU (kk + 1) x.length,y))))] rfl rfl ?_ rfl (by show (HB.lt 1 (.c _ _ (labR (lb0 3) _)) && true) = true;rw [lab_lt];rfl) (Nat.le_refl _) rfl ?_⟩))
  ·exact congrArg (fun h=>[h]) (up_lab (r1.at_ (by omega)) z1 (by omega) (fun i j i' j' h1 h2 h=>lb0_inj h1 h2 h) ⟨_,_,_,rfl⟩ ⟨_,_,_,rfl⟩)
  ((conv=>whnf);repeat'((first|refine W_seq ?_|refine W_block ?_|refine W_skip ?_|refine W_exit ?_|refine zl ?_);conv=>whnf))
  obtain ⟨R2,hR2⟩:∃ R2,R2 = R1.set i (rowR (b1,mkU (kk + 1) x.length,y)):=⟨_,rfl⟩
  have l2:R2.length = l.length:=by rw [hR2,List.length_set];exact l1
  have m2:(labR (lb0 3) R2).length = l.length:=labR_len.trans l2
  have z2:∀ r ∈ R2,r.length = 3:=by rw [hR2];exact rows_len z1 rfl
  have r2:RowAt R2 i (rowR (b1,mkU (kk + 1) x.length,y)):=by rw [hR2];exact rowAt_setv (by omega)
  rw [← hR2]
  ((conv=>whnf);repeat'((first|refine zo T rfl ?_|refine zl ?_);conv=>whnf))
  refine ⟨m2,Int.natCast_nonneg i,by show (i:Int) < (l.length:Int);omega,?_⟩
  ((conv=>whnf);repeat'((first|refine zo T rfl ?_|refine zl ?_);conv=>whnf))
  refine ⟨m2,by show 0 + (i:Int).toNat < _;rw [m2];omega,_,(by rw [Int.toNat_natCast,Nat.zero_add];exact row3 r2),?_⟩
  ((conv=>whnf);repeat'((first|refine zo T rfl ?_|refine zl ?_);conv=>whnf))
  refine .inr (.inr (.inr ⟨_,rfl,call_mark markUM (y,kk + 1 + x.length) [(0,i * 3 + 2)] markU_M ⟨hqo.2,by show kk + 1 + x.length ≤ _;omega⟩ (by simp) (fun l hl=>by rw [List.mem_singleton] at hl;rw [hl];show 0 < 2 + 2 * i + 1;omega) (by show (fnB (.c _ _ (labR (lb0 3) R2)) && true) = true;rw [lab_fn];rfl) (.cons (.own _ _ rfl) (.cons (.own _ _ rfl) .nil)) lookL_self rfl
   [(0,.one (.o false [.sl 0 0 l.length l.length])),(5,int .i64 i)] [.c el 3 (labR (lb0 3) (R2.set i (rowR (b1,mkU (kk + 1) x.length,mkU (kk + 1 + x.length) y.length))))] rfl rfl ?_ rfl (by show (HB.lt 1 (.c _ _ (labR (lb0 3) _)) && true) = true;rw [lab_lt];rfl) (Nat.le_refl _) rfl ?_⟩))
  ·exact congrArg (fun h=>[h]) (up_lab (r2.at_ (by omega)) z2 (by omega) (fun i j i' j' h1 h2 h=>lb0_inj h1 h2 h) ⟨_,_,_,rfl⟩ ⟨_,_,_,rfl⟩)
  ((conv=>whnf);repeat'((first|refine zo T rfl ?_|refine zl ?_);conv=>whnf))
  refine ⟨by show _ ≤ (i:Int) + 1 ∧ (i:Int) + 1 ≤ _;omega,?_⟩
  ((conv=>whnf);repeat'((first|refine zo T rfl ?_|refine zl ?_);conv=>whnf))
  have e:R2.set i (rowR (b1,mkU (kk + 1) x.length,mkU (kk + 1 + x.length) y.length)) = mixR l k (i + 1):=by
   rw [hR2,hR1,List.set_set,List.set_set]
   unfold mixR
   rw [mix_set hmr h1,htk,mkRs_snoc,← hkk,hb1]
   rfl
  refine ⟨i + 1,by omega,by omega,rfl,rfl,rfl,Nat.le_refl _,⟨congrArg (fun r=>HB.c el 3 (labR (lb0 3) r)) e,trivial⟩,⟨rfl,congrArg (fun n:Nat=>int .i64 (n:Int)) (by show kk + 1 + x.length + y.length = k + cntRs (l.take (i + 1));rw [hct];omega),rfl,trivial⟩,?_⟩
  show (_ && (HB.lt 1 (.c _ _ (labR (lb0 3) _)) && true)) = true
  rw [lab_lt]
  rfl
 ·have h1:i = l.length:=by
   have:decide ((i:Int) < (l.length:Int)) = false:=h
   simp at this
   omega
  subst h1
  ((conv=>whnf);repeat'((first|refine zo T rfl ?_|refine zl ?_);conv=>whnf))
  have e0:l.take l.length = l:=List.take_length ..
  refine W_ret ⟨.inr rfl,congrArg (fun n:Nat=>int .i64 ((k + n:Nat):Int)) (by rw [e0]),_,_,rfl,.inl rfl,hml.trans hlm.symm,?_⟩
  have e:mixR l k l.length = (mkRs k l).map rowR:=by unfold mixR;simp
  rw [e]
  exact tree_lab (sz:=3) (fun r hr=>by obtain ⟨x,_,rfl⟩:=List.mem_map.1 hr;rfl) (fun _ _=>rfl) (fun i j i' j' h1 h2 h=>lb0_inj h1 h2 h)
end Go.Proofs.YtijldkknhphgcaaGreat.Pv
end

section
/- The laws' marks on what is owned: nodes, ints, graphs. No condition. -/
set_option linter.unusedVariables false
set_option linter.unusedSimpArgs false
namespace Go.Proofs.YtijldkknhphgcaaGreat.Pv
open Go.RowKit
def mkN (k:Nat) (n:Nod):Nod:=⟨((k:Nat):Int),((k + 1:Nat):Int),((k + 2:Nat):Int),((k + 3:Nat):Int),((k + 4:Nat):Int),mkRs (k + 5) n.v⟩
def cntN (n:Nod):Nat:=5 + cntRs n.v
def mkNs:Nat → List Nod → List Nod
 | _,[]=>[]
 | k,x :: r=>mkN k x :: mkNs (k + cntN x) r
def cntNs:List Nod → Nat
 | []=>0
 | x :: r=>cntN x + cntNs r
theorem mkNs_len:∀ {k:Nat} {l:List Nod},(mkNs k l).length = l.length
 | _,[]=>rfl
 | k,x :: r=>by rw [mkNs,List.length_cons,List.length_cons,mkNs_len]
theorem mkNs_snoc:∀ {k:Nat} {l:List Nod} {x:Nod},mkNs k (l ++ [x]) = mkNs k l ++ [mkN (k + cntNs l) x]
 | _,[],_=>rfl
 | k,y :: r,x=>by
  show mkN k y :: mkNs (k + cntN y) (r ++ [x]) = _
  rw [mkNs_snoc,Nat.add_assoc]
  rfl
theorem cntNs_snoc:∀ {l:List Nod} {x:Nod},cntNs (l ++ [x]) = cntNs l + cntN x
 | [],x=>by simp [cntNs]
 | y :: r,x=>by
  show cntN y + cntNs (r ++ [x]) = cntN y + cntNs r + _
  rw [cntNs_snoc,Nat.add_assoc]
theorem cntNs_take (l:List Nod) (i:Nat):cntNs (l.take i) ≤ cntNs l:=by
 induction l generalizing i with
 | nil=>simp
 | cons x r ih =>
  cases i with
  | zero=>exact Nat.zero_le _
  | succ i=>exact Nat.add_le_add_left (ih i) _
theorem cntNs_le {l:List Nod} {b:Nat} (h:∀ x ∈ l,cntN x ≤ b):cntNs l ≤ l.length * b:=by
 induction l with
 | nil=>simp [cntNs]
 | cons x r ih =>
  have h1:=h x (by simp)
  have h2:=ih fun y hy=>h y (by simp [hy])
  show cntN x + cntNs r ≤ (r.length + 1) * b
  rw [Nat.add_mul]
  omega
def markNsM:ConM:=⟨List Nod × Nat,fun g=>NsOk g.1 ∧ g.2 + cntNs g.1 ≤ 4611686018427387904,fun g=>[.one (.o false [.ow (0,0) (nodsD g.1)]),int .i64 g.2],fun g=>[.one (.o false [.ow (0,0) (nodsD (mkNs g.2 g.1))]),int .i64 g.2],fun g=>int .i64 ((g.2 + cntNs g.1:Nat):Int)⟩
def mixN (l:List Nod) (k i:Nat):List (List D):=(mkNs k (l.take i) ++ l.drop i).map rowN
def markNSt (el n:Nat) (rows:List (List D)) (k i nx:Nat):St:=⟨[(0,.one (.o false [.sl 0 0 n n])),(1,int .i64 (k:Int)),(5,int .i64 i)],[.c el 6 (labR (lb0 6) rows)],55,nx,1⟩
theorem row6 {rows:List (List D)} {i:Nat} {n:Nod} (h:RowAt rows i (rowN n)):RowAt (labR (lb0 6) rows) i [.d (.v (.int .i64 n.op)),.d (.v (.int .i64 n.a)),.d (.v (.int .i64 n.b)),.d (.v (.int .i64 n.k)),.d (.v (.int .i64 n.s)),.ow (0,i * 6 + 5) (ratsR n.v)]:=lab_row h
set_option maxHeartbeats 4000000 in
theorem markNs_M:ValidM Tryz.prog 44 markNsM:=by
 refine validM_list (r:=4) markNsM 6 (fun g=>g.1.map rowN) (fun g=>(mkNs g.2 g.1).map rowN) (fun g=>[(false,[.v (.int .i64 g.2)])]) (fun g=>.int .i64 ((g.2 + cntNs g.1:Nat):Int)) (fun _=>rfl) (fun _=>rfl) (fun _=>rfl) Tryz.func44 rfl rfl rfl (fun _=>Nat.le_of_ble_eq_true rfl) ?_
 rintro ⟨l,k⟩ ⟨(hp:NsOk l),(hk:k + cntNs l ≤ 4611686018427387904)⟩ el hel
 have hl:=hp.1
 have hlm:(l.map rowN).length = l.length:=List.length_map ..
 ((conv=>whnf);repeat'((first|refine zo T rfl ?_|refine zl ?_);conv=>whnf))
 refine W_loop (ι:=Nat) (fun i=>i ≤ l.length) (fun i=>markNSt el l.length (mixN l k i) (k + cntNs (l.take i)) i (2 + i)) (fun i=>l.length - i) 0 (Nat.zero_le _) ?_ ?_
 ·refine ⟨rfl,rfl,rfl,Nat.le_refl _,⟨rfl,trivial⟩,⟨?_,rfl,rfl,trivial⟩,?_⟩
  ·show X.one (.o false [.sl 0 0 (l.map rowN).length (l.map rowN).length]) = _
   rw [hlm]
  ·show (_ && (HB.lt 1 (.c _ _ (labR (lb0 6) _)) && true)) = true
   rw [lab_lt]
   rfl
 intro i hi
 have hmr:(mkNs k (l.take i)).length = i:=by rw [mkNs_len,List.length_take];omega
 have hmx:(mixN l k i).length = l.length:=mix_len hmr hi
 have hml:(labR (lb0 6) (mixN l k i)).length = l.length:=labR_len.trans hmx
 ((conv=>whnf);repeat'((first|refine zo T rfl ?_|refine zl ?_);conv=>whnf))
 refine W_cond rfl (fun h=>?_) (fun h=>?_)
 ·have h1:i < l.length:=by
   have:decide ((i:Int) < (l.length:Int)) = true:=h
   simpa using this
  obtain ⟨q,hq⟩:∃ q,q = l.getD i default:=⟨_,rfl⟩
  have hqm:q ∈ l:=by rw [hq];simp [h1]
  have hqo:LsOk q.v:=hp.2 _ hqm
  have htk:l.take (i + 1) = l.take i ++ [q]:=by rw [take_snoc l h1,← hq]
  have hct:cntNs (l.take (i + 1)) = cntNs (l.take i) + (5 + cntRs q.v):=by rw [htk,cntNs_snoc];rfl
  have hcl:=cntNs_take l (i + 1)
  obtain ⟨kk,hkk⟩:∃ kk,kk = k + cntNs (l.take i):=⟨_,rfl⟩
  have hb0:kk + (5 + cntRs q.v) ≤ 4611686018427387904:=by omega
  have l0:=hmx
  have m0:=hml
  have r0:RowAt (mixN l k i) i (rowN q):=by rw [hq];exact mix_row hmr h1
  have z0:∀ r ∈ mixN l k i,r.length = 6:=fun r hr=>by obtain ⟨q,_,rfl⟩:=List.mem_map.1 hr;rfl
  rw [← hkk]
  have hR0:mixN l k i = mixN l k i:=rfl
  ((conv=>whnf);repeat'((first|refine zo T rfl ?_|refine zl ?_);conv=>whnf))
  refine ⟨m0,Int.natCast_nonneg i,by show (i:Int) < (l.length:Int);omega,?_⟩
  ((conv=>whnf);repeat'((first|refine zo T rfl ?_|refine zl ?_);conv=>whnf))
  refine ⟨m0,by show 0 + (i:Int).toNat < _;rw [m0];omega,_,(by rw [Int.toNat_natCast,Nat.zero_add];exact row6 r0),?_⟩
  ((conv=>whnf);repeat'((first|refine W_seq ?_|refine W_block ?_|refine W_skip ?_|refine W_exit ?_|refine zl ?_);conv=>whnf))
  refine W_le (markNSt el l.length ((mixN l k i).set i (rowN ⟨((kk:Nat):Int),q.a,q.b,q.k,q.s,q.v⟩)) (kk + 0) i (2 + i)) ⟨rfl,rfl,rfl,Nat.le_refl _,⟨?_,trivial⟩,⟨rfl,rfl,rfl,trivial⟩,?_⟩ ?_
  ·show HB.c _ _ ((labR (lb0 6) (mixN l k i)).set (0 + (i:Int).toNat) [.d (.v (.int .i64 ((kk:Nat):Int))),.d (.v (.int .i64 q.a)),.d (.v (.int .i64 q.b)),.d (.v (.int .i64 q.k)),.d (.v (.int .i64 q.s)),.ow (0,i * 6 + 5) (ratsR q.v)]) = .c _ _ (labR (lb0 6) ((mixN l k i).set i (rowN ⟨((kk:Nat):Int),q.a,q.b,q.k,q.s,q.v⟩)))
   rw [Int.toNat_natCast,Nat.zero_add]
   exact congrArg (HB.c _ _) (lab_set (lb:=lb0 6) (r:=rowN ⟨((kk:Nat):Int),q.a,q.b,q.k,q.s,q.v⟩))
  ·show (_ && (HB.lt 1 (.c _ _ (labR (lb0 6) _)) && true)) = true
   rw [lab_lt]
   rfl
  obtain ⟨R1,hR1⟩:∃ R,R = (mixN l k i).set i (rowN ⟨((kk:Nat):Int),q.a,q.b,q.k,q.s,q.v⟩):=⟨_,rfl⟩
  have l1:R1.length = l.length:=by rw [hR1,List.length_set];exact l0
  have m1:(labR (lb0 6) R1).length = l.length:=labR_len.trans l1
  have z1:∀ r ∈ R1,r.length = 6:=by rw [hR1];exact rows_len z0 rfl
  have r1:RowAt R1 i (rowN ⟨((kk:Nat):Int),q.a,q.b,q.k,q.s,q.v⟩):=by rw [hR1];exact rowAt_setv (by omega)
  rw [← hR1]
  ((conv=>whnf);repeat'((first|refine zo T rfl ?_|refine zl ?_);conv=>whnf))
  refine ⟨by show _ ≤ ((kk + 0:Nat):Int) + 1 ∧ ((kk + 0:Nat):Int) + 1 ≤ _;omega,?_⟩
  ((conv=>whnf);repeat'((first|refine zo T rfl ?_|refine zl ?_);conv=>whnf))
  refine ⟨m1,Int.natCast_nonneg i,by show (i:Int) < (l.length:Int);omega,?_⟩
  ((conv=>whnf);repeat'((first|refine zo T rfl ?_|refine zl ?_);conv=>whnf))
  refine ⟨m1,by show 0 + (i:Int).toNat < _;rw [m1];omega,_,(by rw [Int.toNat_natCast,Nat.zero_add];exact row6 r1),?_⟩
  ((conv=>whnf);repeat'((first|refine W_seq ?_|refine W_block ?_|refine W_skip ?_|refine W_exit ?_|refine zl ?_);conv=>whnf))
  refine W_le (markNSt el l.length (R1.set i (rowN ⟨((kk:Nat):Int),((kk + 1:Nat):Int),q.b,q.k,q.s,q.v⟩)) (kk + 1) i (2 + i)) ⟨rfl,rfl,rfl,Nat.le_refl _,⟨?_,trivial⟩,⟨rfl,rfl,rfl,trivial⟩,?_⟩ ?_
  ·show HB.c _ _ ((labR (lb0 6) R1).set (0 + (i:Int).toNat) [.d (.v (.int .i64 ((kk:Nat):Int))),.d (.v (.int .i64 ((kk + 1:Nat):Int))),.d (.v (.int .i64 q.b)),.d (.v (.int .i64 q.k)),.d (.v (.int .i64 q.s)),.ow (0,i * 6 + 5) (ratsR q.v)]) = .c _ _ (labR (lb0 6) (R1.set i (rowN ⟨((kk:Nat):Int),((kk + 1:Nat):Int),q.b,q.k,q.s,q.v⟩)))
   rw [Int.toNat_natCast,Nat.zero_add]
   exact congrArg (HB.c _ _) (lab_set (lb:=lb0 6) (r:=rowN ⟨((kk:Nat):Int),((kk + 1:Nat):Int),q.b,q.k,q.s,q.v⟩))
  ·show (_ && (HB.lt 1 (.c _ _ (labR (lb0 6) _)) && true)) = true
   rw [lab_lt]
   rfl
  obtain ⟨R2,hR2⟩:∃ R,R = R1.set i (rowN ⟨((kk:Nat):Int),((kk + 1:Nat):Int),q.b,q.k,q.s,q.v⟩):=⟨_,rfl⟩
  have l2:R2.length = l.length:=by rw [hR2,List.length_set];exact l1
  have m2:(labR (lb0 6) R2).length = l.length:=labR_len.trans l2
  have z2:∀ r ∈ R2,r.length = 6:=by rw [hR2];exact rows_len z1 rfl
  have r2:RowAt R2 i (rowN ⟨((kk:Nat):Int),((kk + 1:Nat):Int),q.b,q.k,q.s,q.v⟩):=by rw [hR2];exact rowAt_setv (by omega)
  rw [← hR2]
  ((conv=>whnf);repeat'((first|refine zo T rfl ?_|refine zl ?_);conv=>whnf))
  refine ⟨by show _ ≤ ((kk + 1:Nat):Int) + 1 ∧ ((kk + 1:Nat):Int) + 1 ≤ _;omega,?_⟩
  ((conv=>whnf);repeat'((first|refine zo T rfl ?_|refine zl ?_);conv=>whnf))
  refine ⟨m2,Int.natCast_nonneg i,by show (i:Int) < (l.length:Int);omega,?_⟩
  ((conv=>whnf);repeat'((first|refine zo T rfl ?_|refine zl ?_);conv=>whnf))
  refine ⟨m2,by show 0 + (i:Int).toNat < _;rw [m2];omega,_,(by rw [Int.toNat_natCast,Nat.zero_add];exact row6 r2),?_⟩
  ((conv=>whnf);repeat'((first|refine W_seq ?_|refine W_block ?_|refine W_skip ?_|refine W_exit ?_|refine zl ?_);conv=>whnf))
  refine W_le (markNSt el l.length (R2.set i (rowN ⟨((kk:Nat):Int),((kk + 1:Nat):Int),((kk + 2:Nat):Int),q.k,q.s,q.v⟩)) (kk + 2) i (2 + i)) ⟨rfl,rfl,rfl,Nat.le_refl _,⟨?_,trivial⟩,⟨rfl,rfl,rfl,trivial⟩,?_⟩ ?_
  ·show HB.c _ _ ((labR (lb0 6) R2).set (0 + (i:Int).toNat) [.d (.v (.int .i64 ((kk:Nat):Int))),.d (.v (.int .i64 ((kk + 1:Nat):Int))),.d (.v (.int .i64 ((kk + 2:Nat):Int))),.d (.v (.int .i64 q.k)),.d (.v (.int .i64 q.s)),.ow (0,i * 6 + 5) (ratsR q.v)]) = .c _ _ (labR (lb0 6) (R2.set i (rowN ⟨((kk:Nat):Int),((kk + 1:Nat):Int),((kk + 2:Nat):Int),q.k,q.s,q.v⟩)))
   rw [Int.toNat_natCast,Nat.zero_add]
   exact congrArg (HB.c _ _) (lab_set (lb:=lb0 6) (r:=rowN ⟨((kk:Nat):Int),((kk + 1:Nat):Int),((kk + 2:Nat):Int),q.k,q.s,q.v⟩))
  ·show (_ && (HB.lt 1 (.c _ _ (labR (lb0 6) _)) && true)) = true
   rw [lab_lt]
   rfl
  obtain ⟨R3,hR3⟩:∃ R,R = R2.set i (rowN ⟨((kk:Nat):Int),((kk + 1:Nat):Int),((kk + 2:Nat):Int),q.k,q.s,q.v⟩):=⟨_,rfl⟩
  have l3:R3.length = l.length:=by rw [hR3,List.length_set];exact l2
  have m3:(labR (lb0 6) R3).length = l.length:=labR_len.trans l3
  have z3:∀ r ∈ R3,r.length = 6:=by rw [hR3];exact rows_len z2 rfl
  have r3:RowAt R3 i (rowN ⟨((kk:Nat):Int),((kk + 1:Nat):Int),((kk + 2:Nat):Int),q.k,q.s,q.v⟩):=by rw [hR3];exact rowAt_setv (by omega)
  rw [← hR3]
  ((conv=>whnf);repeat'((first|refine zo T rfl ?_|refine zl ?_);conv=>whnf))
  refine ⟨by show _ ≤ ((kk + 2:Nat):Int) + 1 ∧ ((kk + 2:Nat):Int) + 1 ≤ _;omega,?_⟩
  ((conv=>whnf);repeat'((first|refine zo T rfl ?_|refine zl ?_);conv=>whnf))
  refine ⟨m3,Int.natCast_nonneg i,by show (i:Int) < (l.length:Int);omega,?_⟩
  ((conv=>whnf);repeat'((first|refine zo T rfl ?_|refine zl ?_);conv=>whnf))
  refine ⟨m3,by show 0 + (i:Int).toNat < _;rw [m3];omega,_,(by rw [Int.toNat_natCast,Nat.zero_add];exact row6 r3),?_⟩
  ((conv=>whnf);repeat'((first|refine W_seq ?_|refine W_block ?_|refine W_skip ?_|refine W_exit ?_|refine zl ?_);conv=>whnf))
  refine W_le (markNSt el l.length (R3.set i (rowN ⟨((kk:Nat):Int),((kk + 1:Nat):Int),((kk + 2:Nat):Int),((kk + 3:Nat):Int),q.s,q.v⟩)) (kk + 3) i (2 + i)) ⟨rfl,rfl,rfl,Nat.le_refl _,⟨?_,trivial⟩,⟨rfl,rfl,rfl,trivial⟩,?_⟩ ?_
  ·show HB.c _ _ ((labR (lb0 6) R3).set (0 + (i:Int).toNat) [.d (.v (.int .i64 ((kk:Nat):Int))),.d (.v (.int .i64 ((kk + 1:Nat):Int))),.d (.v (.int .i64 ((kk + 2:Nat):Int))),.d (.v (.int .i64 ((kk + 3:Nat):Int))),.d (.v (.int .i64 q.s)),.ow (0,i * 6 + 5) (ratsR q.v)]) = .c _ _ (labR (lb0 6) (R3.set i (rowN ⟨((kk:Nat):Int),((kk + 1:Nat):Int),((kk + 2:Nat):Int),((kk + 3:Nat):Int),q.s,q.v⟩)))
   rw [Int.toNat_natCast,Nat.zero_add]
   exact congrArg (HB.c _ _) (lab_set (lb:=lb0 6) (r:=rowN ⟨((kk:Nat):Int),((kk + 1:Nat):Int),((kk + 2:Nat):Int),((kk + 3:Nat):Int),q.s,q.v⟩))
  ·show (_ && (HB.lt 1 (.c _ _ (labR (lb0 6) _)) && true)) = true
   rw [lab_lt]
   rfl
  obtain ⟨R4,hR4⟩:∃ R,R = R3.set i (rowN ⟨((kk:Nat):Int),((kk + 1:Nat):Int),((kk + 2:Nat):Int),((kk + 3:Nat):Int),q.s,q.v⟩):=⟨_,rfl⟩
  have l4:R4.length = l.length:=by rw [hR4,List.length_set];exact l3
  have m4:(labR (lb0 6) R4).length = l.length:=labR_len.trans l4
  have z4:∀ r ∈ R4,r.length = 6:=by rw [hR4];exact rows_len z3 rfl
  have r4:RowAt R4 i (rowN ⟨((kk:Nat):Int),((kk + 1:Nat):Int),((kk + 2:Nat):Int),((kk + 3:Nat):Int),q.s,q.v⟩):=by rw [hR4];exact rowAt_setv (by omega)
  rw [← hR4]
  ((conv=>whnf);repeat'((first|refine zo T rfl ?_|refine zl ?_);conv=>whnf))
  refine ⟨by show _ ≤ ((kk + 3:Nat):Int) + 1 ∧ ((kk + 3:Nat):Int) + 1 ≤ _;omega,?_⟩
  ((conv=>whnf);repeat'((first|refine zo T rfl ?_|refine zl ?_);conv=>whnf))
  refine ⟨m4,Int.natCast_nonneg i,by show (i:Int) < (l.length:Int);omega,?_⟩
  ((conv=>whnf);repeat'((first|refine zo T rfl ?_|refine zl ?_);conv=>whnf))
  refine ⟨m4,by show 0 + (i:Int).toNat < _;rw [m4];omega,_,(by rw [Int.toNat_natCast,Nat.zero_add];exact row6 r4),?_⟩
  ((conv=>whnf);repeat'((first|refine W_seq ?_|refine W_block ?_|refine W_skip ?_|refine W_exit ?_|refine zl ?_);conv=>whnf))
  refine W_le (markNSt el l.length (R4.set i (rowN ⟨((kk:Nat):Int),((kk + 1:Nat):Int),((kk + 2:Nat):Int),((kk + 3:Nat):Int),((kk + 4:Nat):Int),q.v⟩)) (kk + 4) i (2 + i)) ⟨rfl,rfl,rfl,Nat.le_refl _,⟨?_,trivial⟩,⟨rfl,rfl,rfl,trivial⟩,?_⟩ ?_
  ·show HB.c _ _ ((labR (lb0 6) R4).set (0 + (i:Int).toNat) [.d (.v (.int .i64 ((kk:Nat):Int))),.d (.v (.int .i64 ((kk + 1:Nat):Int))),.d (.v (.int .i64 ((kk + 2:Nat):Int))),.d (.v (.int .i64 ((kk + 3:Nat):Int))),.d (.v (.int .i64 ((kk + 4:Nat):Int))),.ow (0,i * 6 + 5) (ratsR q.v)]) = .c _ _ (labR (lb0 6) (R4.set i (rowN ⟨((kk:Nat):Int),((kk + 1:Nat):Int),((kk + 2:Nat):Int),((kk + 3:Nat):Int),((kk + 4:Nat):Int),q.v⟩)))
   rw [Int.toNat_natCast,Nat.zero_add]
   exact congrArg (HB.c _ _) (lab_set (lb:=lb0 6) (r:=rowN ⟨((kk:Nat):Int),((kk + 1:Nat):Int),((kk + 2:Nat):Int),((kk + 3:Nat):Int),((kk + 4:Nat):Int),q.v⟩))
  ·show (_ && (HB.lt 1 (.c _ _ (labR (lb0 6) _)) && true)) = true
   rw [lab_lt]
   rfl
  obtain ⟨R5,hR5⟩:∃ R,R = R4.set i (rowN ⟨((kk:Nat):Int),((kk + 1:Nat):Int),((kk + 2:Nat):Int),((kk + 3:Nat):Int),((kk + 4:Nat):Int),q.v⟩):=⟨_,rfl⟩
  have l5:R5.length = l.length:=by rw [hR5,List.length_set];exact l4
  have m5:(labR (lb0 6) R5).length = l.length:=labR_len.trans l5
  have z5:∀ r ∈ R5,r.length = 6:=by rw [hR5];exact rows_len z4 rfl
  have r5:RowAt R5 i (rowN ⟨((kk:Nat):Int),((kk + 1:Nat):Int),((kk + 2:Nat):Int),((kk + 3:Nat):Int),((kk + 4:Nat):Int),q.v⟩):=by rw [hR5];exact rowAt_setv (by omega)
  rw [← hR5]
  ((conv=>whnf);repeat'((first|refine zo T rfl ?_|refine zl ?_);conv=>whnf))
  refine ⟨by show _ ≤ ((kk + 4:Nat):Int) + 1 ∧ ((kk + 4:Nat):Int) + 1 ≤ _;omega,?_⟩
  ((conv=>whnf);repeat'((first|refine zo T rfl ?_|refine zl ?_);conv=>whnf))
  refine ⟨m5,Int.natCast_nonneg i,by show (i:Int) < (l.length:Int);omega,?_⟩
  ((conv=>whnf);repeat'((first|refine zo T rfl ?_|refine zl ?_);conv=>whnf))
  refine ⟨m5,by show 0 + (i:Int).toNat < _;rw [m5];omega,_,(by rw [Int.toNat_natCast,Nat.zero_add];exact row6 r5),?_⟩
  ((conv=>whnf);repeat'((first|refine zo T rfl ?_|refine zl ?_);conv=>whnf))
  refine .inr (.inr (.inr ⟨_,rfl,call_mark markRsM (q.v,kk + 5) [(0,i * 6 + 5)] markRs_M ⟨hqo,by show kk + 5 + cntRs q.v ≤ _;omega⟩ (by simp) (fun l hl=>by rw [List.mem_singleton] at hl;rw [hl];show 0 < 2 + i;omega) (by show (fnB (.c _ _ (labR (lb0 6) R5)) && true) = true;rw [lab_fn];rfl) (.cons (.own _ _ rfl) (.cons (.own _ _ rfl) .nil)) lookL_self rfl
   [(0,.one (.o false [.sl 0 0 l.length l.length])),(5,int .i64 i)] [.c el 6 (labR (lb0 6) (R5.set i (rowN ⟨((kk:Nat):Int),((kk + 1:Nat):Int),((kk + 2:Nat):Int),((kk + 3:Nat):Int),((kk + 4:Nat):Int),mkRs (kk + 5) q.v⟩)))] rfl rfl ?_ rfl (by show (HB.lt 1 (.c _ _ (labR (lb0 6) _)) && true) = true;rw [lab_lt];rfl) (Nat.le_refl _) rfl ?_⟩))
  ·exact congrArg (fun h=>[h]) (up_lab (r5.at_ (by omega)) z5 (by omega) (fun i j i' j' h1 h2 h=>lb0_inj h1 h2 h) ⟨_,_,_,rfl⟩ ⟨_,_,_,rfl⟩)
  ((conv=>whnf);repeat'((first|refine zo T rfl ?_|refine zl ?_);conv=>whnf))
  refine ⟨by show _ ≤ (i:Int) + 1 ∧ (i:Int) + 1 ≤ _;omega,?_⟩
  ((conv=>whnf);repeat'((first|refine zo T rfl ?_|refine zl ?_);conv=>whnf))
  have e:R5.set i (rowN ⟨((kk:Nat):Int),((kk + 1:Nat):Int),((kk + 2:Nat):Int),((kk + 3:Nat):Int),((kk + 4:Nat):Int),mkRs (kk + 5) q.v⟩) = mixN l k (i + 1):=by
   rw [hR5,hR4,hR3,hR2,hR1,List.set_set,List.set_set,List.set_set,List.set_set,List.set_set]
   unfold mixN
   rw [mix_set hmr h1,htk,mkNs_snoc,← hkk]
   rfl
  refine ⟨i + 1,by omega,by omega,rfl,rfl,rfl,Nat.le_refl _,⟨congrArg (fun r=>HB.c el 6 (labR (lb0 6) r)) e,trivial⟩,⟨rfl,congrArg (fun n:Nat=>int .i64 (n:Int)) (by show kk + 5 + cntRs q.v = k + cntNs (l.take (i + 1));rw [hct];omega),rfl,trivial⟩,?_⟩
  show (_ && (HB.lt 1 (.c _ _ (labR (lb0 6) _)) && true)) = true
  rw [lab_lt]
  rfl
 ·have h1:i = l.length:=by
   have:decide ((i:Int) < (l.length:Int)) = false:=h
   simp at this
   omega
  subst h1
  ((conv=>whnf);repeat'((first|refine zo T rfl ?_|refine zl ?_);conv=>whnf))
  have e0:l.take l.length = l:=List.take_length ..
  refine W_ret ⟨.inr rfl,congrArg (fun n:Nat=>int .i64 ((k + n:Nat):Int)) (by rw [e0]),_,_,rfl,.inl rfl,hml.trans hlm.symm,?_⟩
  have e:mixN l k l.length = (mkNs k l).map rowN:=by unfold mixN;simp
  rw [e]
  exact tree_lab (sz:=6) (fun r hr=>by obtain ⟨x,_,rfl⟩:=List.mem_map.1 hr;rfl) (fun _ _=>rfl) (fun i j i' j' h1 h2 h=>lb0_inj h1 h2 h)
def mkG (k:Nat) (g:Gr):Gr:=⟨g.inp,g.rnd,mkRs k g.lo,mkRs (k + cntRs g.lo) g.hi,mkNs (k + cntRs g.lo + cntRs g.hi) g.nodes,g.out⟩
def cntG (g:Gr):Nat:=cntRs g.lo + cntRs g.hi + cntNs g.nodes
def ownG (g:Gr):X:=.one (.o true [.d (.v (.int .i64 g.inp)),.d (.v (.int .i64 g.rnd)),.ow (0,0) (ratsR g.lo),.ow (0,1) (ratsR g.hi),.ow (0,2) (nodsD g.nodes),.d (.v (.int .i64 g.out))])
def markGM:ConM:=⟨Gr × Nat,fun g=>GOk g.1 ∧ g.2 + cntG g.1 ≤ 4611686018427387904,fun g=>[ownG g.1,int .i64 g.2],fun g=>[ownG (mkG g.2 g.1),int .i64 g.2],fun g=>int .i64 ((g.2 + cntG g.1:Nat):Int)⟩
set_option maxHeartbeats 4000000 in
theorem markG_M:ValidM Tryz.prog 12 markGM:=by
 refine validM_intro (ts:=[4]) markGM Tryz.func12 rfl rfl rfl (by decide) (fun _=>Nat.le_of_ble_eq_true rfl) ?_
 rintro ⟨⟨inp,rnd,lo,hi,nodes,out⟩,k⟩ ⟨(hp:GOk ⟨inp,rnd,lo,hi,nodes,out⟩),(hk:k + (cntRs lo + cntRs hi + cntNs nodes) ≤ 4611686018427387904)⟩
 ((conv=>whnf);repeat'((first|refine zo T rfl ?_|refine zl ?_);conv=>whnf))
 refine .inr (.inr (.inr ⟨_,rfl,call_tree markRsM (lo,k) [(0,0)] markRs_M ⟨hp.1,by show k + cntRs lo ≤ _;omega⟩ (by simp) rfl rfl (.cons (.own _ _ rfl) (.cons (.own _ _ rfl) .nil)) rfl rfl ?_⟩))
 ((conv=>whnf);repeat'((first|refine zo T rfl ?_|refine zl ?_);conv=>whnf))
 refine .inr (.inr (.inr ⟨_,rfl,call_tree markRsM (hi,k + cntRs lo) [(0,1)] markRs_M ⟨hp.2.1,by show k + cntRs lo + cntRs hi ≤ _;omega⟩ (by simp) rfl rfl (.cons (.own _ _ rfl) (.cons (.own _ _ rfl) .nil)) rfl rfl ?_⟩))
 ((conv=>whnf);repeat'((first|refine zo T rfl ?_|refine zl ?_);conv=>whnf))
 refine .inr (.inr (.inr ⟨_,rfl,call_tree markNsM (nodes,k + cntRs lo + cntRs hi) [(0,2)] markNs_M ⟨hp.2.2,by show k + cntRs lo + cntRs hi + cntNs nodes ≤ _;omega⟩ (by simp) rfl rfl (.cons (.own _ _ rfl) (.cons (.own _ _ rfl) .nil)) rfl rfl ?_⟩))
 ((conv=>whnf);repeat'((first|refine zo T rfl ?_|refine zl ?_);conv=>whnf))
 refine W_ret ⟨.inr rfl,nmO,fun _=>some (1,0),nmO_ok,.one _ _ false _ _ rfl rfl ⟨.v _ _ (congrArg (fun n:Nat=>Value.int .i64 (n:Int)) (by show k + cntRs lo + cntRs hi + cntNs nodes = k + (cntRs lo + cntRs hi + cntNs nodes);omega)),trivial⟩,.inr ⟨rfl,true,_,_,rfl,rfl,rfl,fun j c c' h h'=>?_⟩,.inl ⟨rfl,rfl⟩,trivial⟩
 match j,h,h' with
 | 0,h,h'=>cases h;cases h';exact .inl ⟨_,rfl,rfl⟩
 | 1,h,h'=>cases h;cases h';exact .inl ⟨_,rfl,rfl⟩
 | 2,h,h'=>cases h;cases h';exact .inr ⟨0,_,_,rfl,rfl⟩
 | 3,h,h'=>cases h;cases h';exact .inr ⟨1,_,_,rfl,rfl⟩
 | 4,h,h'=>cases h;cases h';exact .inr ⟨2,_,_,rfl,rfl⟩
 | 5,h,h'=>cases h;cases h';exact .inl ⟨_,rfl,rfl⟩
 | j + 6,h,_=>cases h
def mkI (k n:Nat):List Int:=(List.range n).map fun i=>((k + i:Nat):Int)
theorem mkI_len {k n:Nat}:(mkI k n).length = n:=by simp [mkI]
theorem mkI_succ {k n:Nat}:mkI k (n + 1) = mkI k n ++ [((k + n:Nat):Int)]:=by unfold mkI;rw [List.range_succ,List.map_append];rfl
def markIM:ConM:=⟨List Int × Nat,fun g=>g.1.length ≤ 1048576 ∧ g.2 ≤ 4611686018427387904,fun g=>[.one (.o false [.ow (0,0) (intsD g.1)]),int .i64 g.2],fun g=>[.one (.o false [.ow (0,0) (intsD (mkI g.2 g.1.length))]),int .i64 g.2],fun g=>int .i64 ((g.2 + g.1.length:Nat):Int)⟩
abbrev iRw (x:Int):List D:=[.v (.int .i64 x)]
def mixI (l:List Int) (k i:Nat):List (List D):=(mkI k i ++ l.drop i).map iRw
def markISt (el:Nat) (l:List Int) (k i:Nat):St:=⟨[(0,.one (.o false [.sl 0 0 l.length l.length])),(1,int .i64 ((k + i:Nat):Int)),(5,int .i64 i)],[.c el 1 (labR (lb0 1) (mixI l k i))],19,2,1⟩
theorem markI_M:ValidM Tryz.prog 13 markIM:=by
 refine validM_list (r:=4) markIM 1 (fun g=>g.1.map iRw) (fun g=>(mkI g.2 g.1.length).map iRw) (fun g=>[(false,[.v (.int .i64 g.2)])]) (fun g=>.int .i64 ((g.2 + g.1.length:Nat):Int)) (fun _=>rfl) (fun _=>rfl) (fun _=>rfl) Tryz.func13 rfl rfl rfl (fun _=>Nat.le_of_ble_eq_true rfl) ?_
 rintro ⟨l,k⟩ ⟨(hl:l.length ≤ 1048576),(hk:k ≤ 4611686018427387904)⟩ el hel
 have hlm:(l.map iRw).length = l.length:=List.length_map ..
 ((conv=>whnf);repeat'((first|refine zo T rfl ?_|refine zl ?_);conv=>whnf))
 refine W_loop (ι:=Nat) (fun i=>i ≤ l.length) (markISt el l k) (fun i=>l.length - i) 0 (Nat.zero_le _) ?_ ?_
 ·refine ⟨rfl,rfl,rfl,Nat.le_refl _,⟨rfl,trivial⟩,⟨?_,rfl,rfl,trivial⟩,?_⟩
  ·show X.one (.o false [.sl 0 0 (l.map iRw).length (l.map iRw).length]) = _
   rw [hlm]
  ·show (_ && (HB.lt 1 (.c _ _ (labR (lb0 1) _)) && true)) = true
   rw [lab_lt]
   rfl
 intro i hi
 have hml:(labR (lb0 1) (mixI l k i)).length = l.length:=labR_len.trans (mix_len mkI_len hi)
 ((conv=>whnf);repeat'((first|refine zo T rfl ?_|refine zl ?_);conv=>whnf))
 refine W_cond rfl (fun h=>?_) (fun h=>?_)
 ·have h1:i < l.length:=by
   have:decide ((i:Int) < (l.length:Int)) = true:=h
   simpa using this
  ((conv=>whnf);repeat'((first|refine zo T rfl ?_|refine zl ?_);conv=>whnf))
  refine ⟨hml,Int.natCast_nonneg i,by show (i:Int) < (l.length:Int);omega,?_⟩
  ((conv=>whnf);repeat'((first|refine zo T rfl ?_|refine zl ?_);conv=>whnf))
  refine ⟨hml,by show 0 + (i:Int).toNat < _;rw [hml];omega,[.d (.v (.int .i64 (l.getD i default)))],?_,?_⟩
  ·rw [Int.toNat_natCast,Nat.zero_add]
   exact lab_row (mix_row mkI_len h1)
  ((conv=>whnf);repeat'((first|refine zo T rfl ?_|refine zl ?_);conv=>whnf))
  refine ⟨by show _ ≤ ((k + i:Nat):Int) + 1 ∧ ((k + i:Nat):Int) + 1 ≤ _;omega,?_⟩
  ((conv=>whnf);repeat'((first|refine zo T rfl ?_|refine zl ?_);conv=>whnf))
  refine ⟨by show _ ≤ (i:Int) + 1 ∧ (i:Int) + 1 ≤ _;omega,?_⟩
  ((conv=>whnf);repeat'((first|refine zo T rfl ?_|refine zl ?_);conv=>whnf))
  refine ⟨i + 1,by omega,by omega,rfl,rfl,rfl,Nat.le_refl _,⟨?_,trivial⟩,⟨rfl,rfl,rfl,trivial⟩,?_⟩
  ·show HB.c _ _ ((labR (lb0 1) (mixI l k i)).set (0 + (i:Int).toNat) [.d (.v (.int .i64 ((k + i:Nat):Int)))]) = .c _ _ (labR (lb0 1) (mixI l k (i + 1)))
   rw [Int.toNat_natCast,Nat.zero_add]
   refine congrArg (HB.c _ _) ((lab_set (r:=iRw ((k + i:Nat):Int))).trans (congrArg (labR _) ?_))
   unfold mixI
   rw [mix_set mkI_len h1,mkI_succ]
  ·show (_ && (HB.lt 1 (.c _ _ (labR (lb0 1) _)) && true)) = true
   rw [lab_lt]
   rfl
 ·have h1:i = l.length:=by
   have:decide ((i:Int) < (l.length:Int)) = false:=h
   simp at this
   omega
  subst h1
  ((conv=>whnf);repeat'((first|refine zo T rfl ?_|refine zl ?_);conv=>whnf))
  refine W_ret ⟨.inr rfl,rfl,_,_,rfl,.inl rfl,hml.trans hlm.symm,?_⟩
  have e:mixI l k l.length = (mkI k l.length).map iRw:=by unfold mixI;simp
  rw [e]
  exact tree_lab (sz:=1) (fun r hr=>by obtain ⟨x,_,rfl⟩:=List.mem_map.1 hr;rfl) (fun _ _=>rfl) (fun i j i' j' h1 h2 h=>lb0_inj h1 h2 h)
def heldICon:Con:=⟨Nat × Nat,fun g=>[(false,[intsD (mkI g.1 g.2)]),(false,[.v (.int .i64 g.1)])],fun g=>g.1 ≤ 4611686018427387904 ∧ g.2 ≤ 1048576,fun _ g=>int .i64 ((g.1 + g.2:Nat):Int),true⟩
theorem heldI_valid:Valid Tryz.prog 14 heldICon:=by
 refine valid_intro (ts:=[4]) heldICon Tryz.func14 rfl rfl rfl (by decide) (fun _=>Nat.le_of_ble_eq_true rfl) ?_
 rintro ⟨k,n⟩ ⟨(hk:k ≤ 4611686018427387904),(hn:n ≤ 1048576)⟩ nm nx
 have hlm:((mkI k n).map iRw).length = n:=by rw [List.length_map,mkI_len]
 ((conv=>whnf);repeat'((first|refine zo T rfl ?_|refine zl ?_);conv=>whnf))
 refine W_loop (ι:=Nat) (fun i=>i ≤ n) (fun i=>⟨[(0,.one (.p false [intsD (mkI k n)])),(1,int .i64 ((k + i:Nat):Int)),(5,int .i64 i)],[],21,nx,0⟩) (fun i=>n - i) 0 (Nat.zero_le _) (by (refine St.le_mk ?_ ?_ ?_ ?_ ?_ ?_ ?_ <;> kernel_rfl)) ?_
 intro i hi
 ((conv=>whnf);repeat'((first|refine zo T rfl ?_|refine zl ?_);conv=>whnf))
 refine W_cond rfl (fun h=>?_) (fun h=>?_)
 ·have h1:i < n:=by
   have h:=of_decide_eq_true (show decide ((i:Int) < (((mkI k n).map iRw).length:Int)) = true from h)
   omega
  have hg:(mkI k n).getD i default = ((k + i:Nat):Int):=by
   rw [List.getD_eq_getElem?_getD]
   simp [mkI,h1]
  ((conv=>whnf);repeat'((first|refine zo T rfl ?_|refine zl ?_);conv=>whnf))
  refine ⟨Int.natCast_nonneg i,by show (i:Int) < (((mkI k n).map iRw).length:Int);omega,_,rowMap (mkI k n) iRw _,?_⟩
  ((conv=>whnf);repeat'((first|refine zo T rfl ?_|refine zl ?_);conv=>whnf))
  refine W_cond rfl (fun h2=>?_) (fun h2=>?_)
  ·have h2:=bne_iff_ne.1 (show ((mkI k n).getD (i:Int).toNat default != ((k + i:Nat):Int)) = true from h2)
   rw [Int.toNat_natCast] at h2
   exact absurd hg h2
  ((conv=>whnf);repeat'((first|refine zo T rfl ?_|refine zl ?_);conv=>whnf))
  refine ⟨by show _ ≤ ((k + i:Nat):Int) + 1 ∧ ((k + i:Nat):Int) + 1 ≤ _;omega,?_⟩
  ((conv=>whnf);repeat'((first|refine zo T rfl ?_|refine zl ?_);conv=>whnf))
  refine ⟨by show _ ≤ (i:Int) + 1 ∧ (i:Int) + 1 ≤ _;omega,?_⟩
  ((conv=>whnf);repeat'((first|refine zo T rfl ?_|refine zl ?_);conv=>whnf))
  exact ⟨i + 1,by omega,by omega,by (refine St.le_mk ?_ ?_ ?_ ?_ ?_ ?_ ?_ <;> kernel_rfl)⟩
 ·have h:=of_decide_eq_false (show decide ((i:Int) < (((mkI k n).map iRw).length:Int)) = false from h)
  obtain rfl:i = n:=by omega
  ((conv=>whnf);repeat'((first|refine zo T rfl ?_|refine zl ?_);conv=>whnf))
  exact W_ret ⟨.inr rfl,.one (.p _ _ _ (.cons (.v _ _ rfl) .nil))⟩
end Go.Proofs.YtijldkknhphgcaaGreat.Pv
end

section
/- Equality of rows of limbs and of rationals. No condition. -/
set_option linter.unusedVariables false
set_option linter.unusedSimpArgs false
namespace Go.Proofs.YtijldkknhphgcaaGreat.Pv
open Go.RowKit
def eqLCon:Con:=⟨List Nat × List Nat,fun g=>[(false,[limR g.1]),(false,[limR g.2])],fun g=>Lok g.1 ∧ Lok g.2,fun _ g=>bl (decide (g.1 = g.2)),true⟩
theorem eqUint32S_valid:Valid Tryz.prog 81 eqLCon:=by
 refine valid_intro (ts:=[4]) eqLCon Tryz.func81 rfl rfl rfl (by decide) (fun _=>Nat.le_of_ble_eq_true rfl) ?_
 rintro ⟨a,b⟩ ⟨(ha:Lok a),(hb:Lok b)⟩ nm nx
 have l1:(a.map limRow).length = a.length:=by simp
 have l2:(b.map limRow).length = b.length:=by simp
 ((conv=>whnf);repeat'((first|refine zo T rfl ?_|refine zl ?_);conv=>whnf))
 refine W_cond rfl (fun h=>?_) (fun h=>?_)
 ·have h:(((a.map limRow).length:Int) != ((b.map limRow).length:Int)) = true:=h
  rw [l1,l2] at h
  ((conv=>whnf);repeat'((first|refine zo T rfl ?_|refine zl ?_);conv=>whnf))
  refine W_ret ⟨.inr rfl,.one (.p _ _ _ (.cons (.v _ _ (no fun e=>?_)) .nil))⟩
  have e:a = b:=e
  subst e
  simp at h
 ·have h:(((a.map limRow).length:Int) != ((b.map limRow).length:Int)) = false:=h
  rw [l1,l2] at h
  have hl:a.length = b.length:=by have:=bne_eq_false_iff_eq.1 h;omega
  ((conv=>whnf);repeat'((first|refine zo T rfl ?_|refine zl ?_);conv=>whnf))
  refine W_loop (ι:=Nat) (fun k=>k ≤ a.length ∧ a.take k = b.take k) (fun k=>⟨[(0,.one (.p false [limR a])),(1,.one (.p false [limR b])),(5,int .i64 k)],[],26,nx,0⟩) (fun k=>a.length - k) 0 ⟨Nat.zero_le _,by simp⟩ (by (refine St.le_mk ?_ ?_ ?_ ?_ ?_ ?_ ?_ <;> kernel_rfl)) ?_
  rintro k ⟨hk,he⟩
  ((conv=>whnf);repeat'((first|refine zo T rfl ?_|refine zl ?_);conv=>whnf))
  refine W_cond rfl (fun h=>?_) (fun h=>?_)
  ·have h1:k < a.length:=by
    have:decide ((k:Int) < (a.map limRow).length) = true:=h
    simpa using this
   have h2:k < b.length:=by omega
   ((conv=>whnf);repeat'((first|refine zo T rfl ?_|refine zl ?_);conv=>whnf))
   refine W_draw T 9 rfl (by kernel_rfl) ?_
   refine ⟨Int.natCast_nonneg k,by show (k:Int) < (a.map limRow).length;omega,_,rowMap a limRow _,?_⟩
   refine ⟨Int.natCast_nonneg k,by show (k:Int) < (b.map limRow).length;omega,_,rowMap b limRow _,?_⟩
   ((conv=>whnf);repeat'((first|refine zo T rfl ?_|refine zl ?_);conv=>whnf))
   refine W_cond rfl (fun h3=>?_) (fun h3=>?_)
   ·have h3:(((a.getD k default:Nat):Int) != ((b.getD k default:Nat):Int)) = true:=h3
    ((conv=>whnf);repeat'((first|refine zo T rfl ?_|refine zl ?_);conv=>whnf))
    refine W_ret ⟨.inr rfl,.one (.p _ _ _ (.cons (.v _ _ (no fun e=>?_)) .nil))⟩
    have e:a = b:=e
    subst e
    simp at h3
   ·have h3:(((a.getD k default:Nat):Int) != ((b.getD k default:Nat):Int)) = false:=h3
    have h4:a.getD k default = b.getD k default:=by
     have:=(bne_eq_false_iff_eq.1 h3)
     omega
    ((conv=>whnf);repeat'((first|refine zo T rfl ?_|refine zl ?_);conv=>whnf))
    refine ⟨by have:=ha.2;omega,?_⟩
    exact ⟨k + 1,⟨h1,by rw [take_snoc a h1,take_snoc b h2,he,h4]⟩,by omega,by (refine St.le_mk ?_ ?_ ?_ ?_ ?_ ?_ ?_ <;> kernel_rfl)⟩
  ·have h1:k = a.length:=by
    have:decide ((k:Int) < (a.map limRow).length) = false:=h
    simp at this
    omega
   subst h1
   ((conv=>whnf);repeat'((first|refine zo T rfl ?_|refine zl ?_);conv=>whnf))
   refine W_ret ⟨.inr rfl,.one (.p _ _ _ (.cons (.v _ _ (yes ?_)) .nil))⟩
   show a = b
   rw [List.take_length,hl,List.take_length] at he
   exact he
def eqRCon:Con:=⟨RtD × RtD,fun g=>[(true,rowR g.1),(true,rowR g.2)],fun g=>Rok g.1 ∧ Rok g.2,fun _ g=>bl (decide (g.1 = g.2)),true⟩
theorem eqRat_valid:Valid Tryz.prog 51 eqRCon:=by
 refine valid_intro (ts:=[4]) eqRCon Tryz.func51 rfl rfl rfl (by decide) (fun _=>Nat.le_of_ble_eq_true rfl) ?_
 rintro ⟨⟨a1,a2,a3⟩,⟨b1,b2,b3⟩⟩ ⟨(ha:Lok a2 ∧ Lok a3),(hb:Lok b2 ∧ Lok b3)⟩ nm nx
 have bad:¬((a1,a2,a3) = ((b1,b2,b3):RtD)) → Value.bool false = Value.bool (decide ((a1,a2,a3) = ((b1,b2,b3):RtD))):=fun h=>no h
 ((conv=>whnf);repeat'((first|refine zo T rfl ?_|refine zl ?_);conv=>whnf))
 refine W_cond rfl (fun h=>?_) (fun h=>?_)
 ·have h:(a1 != b1) = true:=h
  ((conv=>whnf);repeat'((first|refine zo T rfl ?_|refine zl ?_);conv=>whnf))
  refine W_ret ⟨.inr rfl,.one (.p _ _ _ (.cons (.v _ _ (bad fun e=>?_)) .nil))⟩
  cases e
  simp at h
 ·have h:(a1 != b1) = false:=h
  have h:a1 = b1:=by simpa using h
  ((conv=>whnf);repeat'((first|refine zo T rfl ?_|refine zl ?_);conv=>whnf))
  refine .inl ⟨eqLCon,(a2,b2),eqUint32S_valid,⟨ha.1,hb.1⟩,.cons (.same _ _) (.cons (.same _ _) .nil),?_⟩
  ((conv=>whnf);repeat'((first|refine zo T rfl ?_|refine zl ?_);conv=>whnf))
  refine W_cond rfl (fun h2=>?_) (fun h2=>?_)
  ·have h2:(!decide (a2 = b2)) = true:=h2
   ((conv=>whnf);repeat'((first|refine zo T rfl ?_|refine zl ?_);conv=>whnf))
   refine W_ret ⟨.inr rfl,.one (.p _ _ _ (.cons (.v _ _ (bad fun e=>?_)) .nil))⟩
   cases e
   simp at h2
  ·have h2:(!decide (a2 = b2)) = false:=h2
   have h2:a2 = b2:=by simpa using h2
   ((conv=>whnf);repeat'((first|refine zo T rfl ?_|refine zl ?_);conv=>whnf))
   refine .inl ⟨eqLCon,(a3,b3),eqUint32S_valid,⟨ha.2,hb.2⟩,.cons (.same _ _) (.cons (.same _ _) .nil),?_⟩
   ((conv=>whnf);repeat'((first|refine zo T rfl ?_|refine zl ?_);conv=>whnf))
   refine W_cond rfl (fun h3=>?_) (fun h3=>?_)
   ·have h3:(!decide (a3 = b3)) = true:=h3
    ((conv=>whnf);repeat'((first|refine zo T rfl ?_|refine zl ?_);conv=>whnf))
    refine W_ret ⟨.inr rfl,.one (.p _ _ _ (.cons (.v _ _ (bad fun e=>?_)) .nil))⟩
    cases e
    simp at h3
   ·have h3:(!decide (a3 = b3)) = false:=h3
    have h3:a3 = b3:=by simpa using h3
    ((conv=>whnf);repeat'((first|refine zo T rfl ?_|refine zl ?_);conv=>whnf))
    refine W_ret ⟨.inr rfl,.one (.p _ _ _ (.cons (.v _ _ (yes ?_)) .nil))⟩
    show (a1,a2,a3) = ((b1,b2,b3):RtD)
    rw [h,h2,h3]
end Go.Proofs.YtijldkknhphgcaaGreat.Pv
end

section
/- Equality of lists of rationals, of maps, of nets. No condition. -/
set_option linter.unusedVariables false
set_option linter.unusedSimpArgs false
namespace Go.Proofs.YtijldkknhphgcaaGreat.Pv
open Go.RowKit

deriving instance DecidableEq for Aff
def eqRsCon:Con:=⟨List RtD × List RtD,fun g=>[(false,[ratsR g.1]),(false,[ratsR g.2])],fun g=>LsOk g.1 ∧ LsOk g.2,fun _ g=>bl (decide (g.1 = g.2)),true⟩
theorem eqRatS_valid:Valid Tryz.prog 19 eqRsCon:=by
 refine valid_intro (ts:=[4]) eqRsCon Tryz.func19 rfl rfl rfl (by decide) (fun _=>Nat.le_of_ble_eq_true rfl) ?_
 rintro ⟨a,b⟩ ⟨(ha:LsOk a),(hb:LsOk b)⟩ nm nx
 have l1:(a.map rowR).length = a.length:=by simp
 have l2:(b.map rowR).length = b.length:=by simp
 have la:=ha.1
 ((conv=>whnf);repeat'((first|refine zo T rfl ?_|refine zl ?_);conv=>whnf))
 refine W_cond rfl (fun h=>?_) (fun h=>?_)
 ·have h:(((a.map rowR).length:Int) != ((b.map rowR).length:Int)) = true:=h
  rw [l1,l2] at h
  ((conv=>whnf);repeat'((first|refine zo T rfl ?_|refine zl ?_);conv=>whnf))
  refine W_ret ⟨.inr rfl,.one (.p _ _ _ (.cons (.v _ _ (no fun e=>?_)) .nil))⟩
  have e:a = b:=e
  subst e
  simp at h
 ·have h:(((a.map rowR).length:Int) != ((b.map rowR).length:Int)) = false:=h
  rw [l1,l2] at h
  have hl:a.length = b.length:=by have:=bne_eq_false_iff_eq.1 h;omega
  ((conv=>whnf);repeat'((first|refine zo T rfl ?_|refine zl ?_);conv=>whnf))
  refine W_loop (ι:=Nat) (fun k=>k ≤ a.length ∧ a.take k = b.take k) (fun k=>⟨[(0,.one (.p false [ratsR a])),(1,.one (.p false [ratsR b])),(5,int .i64 k)],[],27,nx,0⟩) (fun k=>a.length - k) 0 ⟨Nat.zero_le _,by simp⟩ (by (refine St.le_mk ?_ ?_ ?_ ?_ ?_ ?_ ?_ <;> kernel_rfl)) ?_
  rintro k ⟨hk,he⟩
  ((conv=>whnf);repeat'((first|refine zo T rfl ?_|refine zl ?_);conv=>whnf))
  refine W_cond rfl (fun h=>?_) (fun h=>?_)
  ·have h1:k < a.length:=by
    have:decide ((k:Int) < (a.map rowR).length) = true:=h
    simpa using this
   have h2:k < b.length:=by omega
   have m1:a.getD k default ∈ a:=by simp [h1]
   have m2:b.getD k default ∈ b:=by simp [h2]
   ((conv=>whnf);repeat'((first|refine zo T rfl ?_|refine zl ?_);conv=>whnf))
   refine W_draw T 10 rfl (by kernel_rfl) ?_
   refine ⟨Int.natCast_nonneg k,by show (k:Int) < (a.map rowR).length;omega,_,rowMap a rowR _,?_⟩
   refine ⟨Int.natCast_nonneg k,by show (k:Int) < (b.map rowR).length;omega,_,rowMap b rowR _,?_⟩
   refine ⟨eqRCon,(a.getD k default,b.getD k default),eqRat_valid,⟨ha.2 _ m1,hb.2 _ m2⟩,.cons (.same _ _) (.cons (.same _ _) .nil),?_⟩
   ((conv=>whnf);repeat'((first|refine zo T rfl ?_|refine zl ?_);conv=>whnf))
   refine W_cond rfl (fun h3=>?_) (fun h3=>?_)
   ·have h3:(!decide (a.getD k default = b.getD k default)) = true:=h3
    ((conv=>whnf);repeat'((first|refine zo T rfl ?_|refine zl ?_);conv=>whnf))
    refine W_ret ⟨.inr rfl,.one (.p _ _ _ (.cons (.v _ _ (no fun e=>?_)) .nil))⟩
    have e:a = b:=e
    subst e
    simp at h3
   ·have h3:(!decide (a.getD k default = b.getD k default)) = false:=h3
    have h4:a.getD k default = b.getD k default:=of_decide_eq_true (by rw [Bool.not_eq_false'] at h3;exact h3)
    ((conv=>whnf);repeat'((first|refine zo T rfl ?_|refine zl ?_);conv=>whnf))
    refine ⟨by omega,?_⟩
    exact ⟨k + 1,⟨h1,by rw [take_snoc a h1,take_snoc b h2,he,h4]⟩,by omega,by (refine St.le_mk ?_ ?_ ?_ ?_ ?_ ?_ ?_ <;> kernel_rfl)⟩
  ·have h1:k = a.length:=by
    have:decide ((k:Int) < (a.map rowR).length) = false:=h
    simp at this
    omega
   subst h1
   ((conv=>whnf);repeat'((first|refine zo T rfl ?_|refine zl ?_);conv=>whnf))
   refine W_ret ⟨.inr rfl,.one (.p _ _ _ (.cons (.v _ _ (yes ?_)) .nil))⟩
   show a = b
   rw [List.take_length,hl,List.take_length] at he
   exact he
end Go.Proofs.YtijldkknhphgcaaGreat.Pv
end

section
/- Equality of graphs. No condition. -/
set_option linter.unusedVariables false
set_option linter.unusedSimpArgs false
namespace Go.Proofs.YtijldkknhphgcaaGreat.Pv
open Go.RowKit
def NOk (n:Nod):Prop:=LsOk n.v
def eqNdCon:Con:=⟨Nod × Nod,fun g=>[(true,rowN g.1),(true,rowN g.2)],fun g=>NOk g.1 ∧ NOk g.2,fun _ g=>bl (decide (g.1 = g.2)),true⟩
theorem eqNode_valid:Valid Tryz.prog 75 eqNdCon:=by
 refine valid_intro (ts:=[4]) eqNdCon Tryz.func75 rfl rfl rfl (by decide) (fun _=>Nat.le_of_ble_eq_true rfl) ?_
 rintro ⟨⟨a0,a1,a2,a3,a4,a5⟩,⟨b0,b1,b2,b3,b4,b5⟩⟩ ⟨ha,hb⟩ nm nx
 have bad:¬(Nod.mk a0 a1 a2 a3 a4 a5 = Nod.mk b0 b1 b2 b3 b4 b5) → Value.bool false = Value.bool (decide (Nod.mk a0 a1 a2 a3 a4 a5 = Nod.mk b0 b1 b2 b3 b4 b5)):=fun h=>no h
 ((conv=>whnf);repeat'((first|refine zo T rfl ?_|refine zl ?_);conv=>whnf))
 refine W_cond rfl (fun h0=>?_) (fun h0=>?_)
 ·have h0:(a0 != b0) = true:=h0
  ((conv=>whnf);repeat'((first|refine zo T rfl ?_|refine zl ?_);conv=>whnf))
  refine W_ret ⟨.inr rfl,.one (.p _ _ _ (.cons (.v _ _ (bad fun e=>?_)) .nil))⟩
  cases e
  simp at h0
 ·have h0:(a0 != b0) = false:=h0
  have h0:a0 = b0:=bne_eq_false_iff_eq.1 h0
  ((conv=>whnf);repeat'((first|refine zo T rfl ?_|refine zl ?_);conv=>whnf))
  refine W_cond rfl (fun h1=>?_) (fun h1=>?_)
  ·have h1:(a1 != b1) = true:=h1
   ((conv=>whnf);repeat'((first|refine zo T rfl ?_|refine zl ?_);conv=>whnf))
   refine W_ret ⟨.inr rfl,.one (.p _ _ _ (.cons (.v _ _ (bad fun e=>?_)) .nil))⟩
   cases e
   simp at h1
  ·have h1:(a1 != b1) = false:=h1
   have h1:a1 = b1:=bne_eq_false_iff_eq.1 h1
   ((conv=>whnf);repeat'((first|refine zo T rfl ?_|refine zl ?_);conv=>whnf))
   refine W_cond rfl (fun h2=>?_) (fun h2=>?_)
   ·have h2:(a2 != b2) = true:=h2
    ((conv=>whnf);repeat'((first|refine zo T rfl ?_|refine zl ?_);conv=>whnf))
    refine W_ret ⟨.inr rfl,.one (.p _ _ _ (.cons (.v _ _ (bad fun e=>?_)) .nil))⟩
    cases e
    simp at h2
   ·have h2:(a2 != b2) = false:=h2
    have h2:a2 = b2:=bne_eq_false_iff_eq.1 h2
    ((conv=>whnf);repeat'((first|refine zo T rfl ?_|refine zl ?_);conv=>whnf))
    refine W_cond rfl (fun h3=>?_) (fun h3=>?_)
    ·have h3:(a3 != b3) = true:=h3
     ((conv=>whnf);repeat'((first|refine zo T rfl ?_|refine zl ?_);conv=>whnf))
     refine W_ret ⟨.inr rfl,.one (.p _ _ _ (.cons (.v _ _ (bad fun e=>?_)) .nil))⟩
     cases e
     simp at h3
    ·have h3:(a3 != b3) = false:=h3
     have h3:a3 = b3:=bne_eq_false_iff_eq.1 h3
     ((conv=>whnf);repeat'((first|refine zo T rfl ?_|refine zl ?_);conv=>whnf))
     refine W_cond rfl (fun h4=>?_) (fun h4=>?_)
     ·have h4:(a4 != b4) = true:=h4
      ((conv=>whnf);repeat'((first|refine zo T rfl ?_|refine zl ?_);conv=>whnf))
      refine W_ret ⟨.inr rfl,.one (.p _ _ _ (.cons (.v _ _ (bad fun e=>?_)) .nil))⟩
      cases e
      simp at h4
     ·have h4:(a4 != b4) = false:=h4
      have h4:a4 = b4:=bne_eq_false_iff_eq.1 h4
      ((conv=>whnf);repeat'((first|refine zo T rfl ?_|refine zl ?_);conv=>whnf))
      refine .inl ⟨eqRsCon,(a5,b5),eqRatS_valid,⟨ha,hb⟩,.cons (.same _ _) (.cons (.same _ _) .nil),?_⟩
      ((conv=>whnf);repeat'((first|refine zo T rfl ?_|refine zl ?_);conv=>whnf))
      refine W_cond rfl (fun h5=>?_) (fun h5=>?_)
      ·have h5:(!decide (a5 = b5)) = true:=h5
       ((conv=>whnf);repeat'((first|refine zo T rfl ?_|refine zl ?_);conv=>whnf))
       refine W_ret ⟨.inr rfl,.one (.p _ _ _ (.cons (.v _ _ (bad fun e=>?_)) .nil))⟩
       cases e
       simp at h5
      ·have h5:(!decide (a5 = b5)) = false:=h5
       have h5:a5 = b5:=by simpa using h5
       ((conv=>whnf);repeat'((first|refine zo T rfl ?_|refine zl ?_);conv=>whnf))
       refine W_ret ⟨.inr rfl,.one (.p _ _ _ (.cons (.v _ _ (yes ?_)) .nil))⟩
       show Nod.mk a0 a1 a2 a3 a4 a5 = Nod.mk b0 b1 b2 b3 b4 b5
       rw [h0,h1,h2,h3,h4,h5]
def eqNdsCon:Con:=⟨List Nod × List Nod,fun g=>[(false,[nodsD g.1]),(false,[nodsD g.2])],fun g=>NsOk g.1 ∧ NsOk g.2,fun _ g=>bl (decide (g.1 = g.2)),true⟩
theorem eqNodeS_valid:Valid Tryz.prog 43 eqNdsCon:=by
 refine valid_intro (ts:=[4]) eqNdsCon Tryz.func43 rfl rfl rfl (by decide) (fun _=>Nat.le_of_ble_eq_true rfl) ?_
 rintro ⟨a,b⟩ ⟨(ha:NsOk a),(hb:NsOk b)⟩ nm nx
 have l1:(a.map rowN).length = a.length:=by simp
 have l2:(b.map rowN).length = b.length:=by simp
 have la:=ha.1
 ((conv=>whnf);repeat'((first|refine zo T rfl ?_|refine zl ?_);conv=>whnf))
 refine W_cond rfl (fun h=>?_) (fun h=>?_)
 ·have h:(((a.map rowN).length:Int) != ((b.map rowN).length:Int)) = true:=h
  rw [l1,l2] at h
  ((conv=>whnf);repeat'((first|refine zo T rfl ?_|refine zl ?_);conv=>whnf))
  refine W_ret ⟨.inr rfl,.one (.p _ _ _ (.cons (.v _ _ (no fun e=>?_)) .nil))⟩
  have e:a = b:=e
  subst e
  simp at h
 ·have h:(((a.map rowN).length:Int) != ((b.map rowN).length:Int)) = false:=h
  rw [l1,l2] at h
  have hl:a.length = b.length:=by have:=bne_eq_false_iff_eq.1 h;omega
  ((conv=>whnf);repeat'((first|refine zo T rfl ?_|refine zl ?_);conv=>whnf))
  refine W_loop (ι:=Nat) (fun k=>k ≤ a.length ∧ a.take k = b.take k) (fun k=>⟨[(0,.one (.p false [nodsD a])),(1,.one (.p false [nodsD b])),(5,int .i64 k)],[],27,nx,0⟩) (fun k=>a.length - k) 0 ⟨Nat.zero_le _,by simp⟩ (by (refine St.le_mk ?_ ?_ ?_ ?_ ?_ ?_ ?_ <;> kernel_rfl)) ?_
  rintro k ⟨hk,he⟩
  ((conv=>whnf);repeat'((first|refine zo T rfl ?_|refine zl ?_);conv=>whnf))
  refine W_cond rfl (fun h=>?_) (fun h=>?_)
  ·have h1:k < a.length:=by
    have:decide ((k:Int) < (a.map rowN).length) = true:=h
    simpa using this
   have h2:k < b.length:=by omega
   have m1:a.getD k default ∈ a:=by simp [h1]
   have m2:b.getD k default ∈ b:=by simp [h2]
   ((conv=>whnf);repeat'((first|refine zo T rfl ?_|refine zl ?_);conv=>whnf))
   refine W_draw T 10 rfl (by kernel_rfl) ?_
   refine ⟨Int.natCast_nonneg k,by show (k:Int) < (a.map rowN).length;omega,_,rowMap a rowN _,?_⟩
   refine ⟨Int.natCast_nonneg k,by show (k:Int) < (b.map rowN).length;omega,_,rowMap b rowN _,?_⟩
   refine ⟨eqNdCon,(a.getD k default,b.getD k default),eqNode_valid,⟨ha.2 _ m1,hb.2 _ m2⟩,.cons (.same _ _) (.cons (.same _ _) .nil),?_⟩
   ((conv=>whnf);repeat'((first|refine zo T rfl ?_|refine zl ?_);conv=>whnf))
   refine W_cond rfl (fun h3=>?_) (fun h3=>?_)
   ·have h3:(!decide (a.getD k default = b.getD k default)) = true:=h3
    ((conv=>whnf);repeat'((first|refine zo T rfl ?_|refine zl ?_);conv=>whnf))
    refine W_ret ⟨.inr rfl,.one (.p _ _ _ (.cons (.v _ _ (no fun e=>?_)) .nil))⟩
    have e:a = b:=e
    subst e
    simp at h3
   ·have h3:(!decide (a.getD k default = b.getD k default)) = false:=h3
    have h4:a.getD k default = b.getD k default:=of_decide_eq_true (by rw [Bool.not_eq_false'] at h3;exact h3)
    ((conv=>whnf);repeat'((first|refine zo T rfl ?_|refine zl ?_);conv=>whnf))
    refine ⟨by omega,?_⟩
    exact ⟨k + 1,⟨h1,by rw [take_snoc a h1,take_snoc b h2,he,h4]⟩,by omega,by (refine St.le_mk ?_ ?_ ?_ ?_ ?_ ?_ ?_ <;> kernel_rfl)⟩
  ·have h1:k = a.length:=by
    have:decide ((k:Int) < (a.map rowN).length) = false:=h
    simp at this
    omega
   subst h1
   ((conv=>whnf);repeat'((first|refine zo T rfl ?_|refine zl ?_);conv=>whnf))
   refine W_ret ⟨.inr rfl,.one (.p _ _ _ (.cons (.v _ _ (yes ?_)) .nil))⟩
   show a = b
   rw [List.take_length,hl,List.take_length] at he
   exact he
def eqGCon:Con:=⟨Gr × Gr,fun g=>[(true,rowG g.1),(true,rowG g.2)],fun g=>GOk g.1 ∧ GOk g.2,fun _ g=>bl (decide (g.1 = g.2)),true⟩
theorem eqGraph_valid:Valid Tryz.prog 11 eqGCon:=by
 refine valid_intro (ts:=[4]) eqGCon Tryz.func11 rfl rfl rfl (by decide) (fun _=>Nat.le_of_ble_eq_true rfl) ?_
 rintro ⟨⟨a0,a1,a2,a3,a4,a5⟩,⟨b0,b1,b2,b3,b4,b5⟩⟩ ⟨ha,hb⟩ nm nx
 have bad:¬(Gr.mk a0 a1 a2 a3 a4 a5 = Gr.mk b0 b1 b2 b3 b4 b5) → Value.bool false = Value.bool (decide (Gr.mk a0 a1 a2 a3 a4 a5 = Gr.mk b0 b1 b2 b3 b4 b5)):=fun h=>no h
 ((conv=>whnf);repeat'((first|refine zo T rfl ?_|refine zl ?_);conv=>whnf))
 refine W_cond rfl (fun h0=>?_) (fun h0=>?_)
 ·have h0:(a0 != b0) = true:=h0
  ((conv=>whnf);repeat'((first|refine zo T rfl ?_|refine zl ?_);conv=>whnf))
  refine W_ret ⟨.inr rfl,.one (.p _ _ _ (.cons (.v _ _ (bad fun e=>?_)) .nil))⟩
  cases e
  simp at h0
 ·have h0:(a0 != b0) = false:=h0
  have h0:a0 = b0:=bne_eq_false_iff_eq.1 h0
  ((conv=>whnf);repeat'((first|refine zo T rfl ?_|refine zl ?_);conv=>whnf))
  refine W_cond rfl (fun h1=>?_) (fun h1=>?_)
  ·have h1:(a1 != b1) = true:=h1
   ((conv=>whnf);repeat'((first|refine zo T rfl ?_|refine zl ?_);conv=>whnf))
   refine W_ret ⟨.inr rfl,.one (.p _ _ _ (.cons (.v _ _ (bad fun e=>?_)) .nil))⟩
   cases e
   simp at h1
  ·have h1:(a1 != b1) = false:=h1
   have h1:a1 = b1:=bne_eq_false_iff_eq.1 h1
   ((conv=>whnf);repeat'((first|refine zo T rfl ?_|refine zl ?_);conv=>whnf))
   refine .inl ⟨eqRsCon,(a2,b2),eqRatS_valid,⟨ha.1,hb.1⟩,.cons (.same _ _) (.cons (.same _ _) .nil),?_⟩
   ((conv=>whnf);repeat'((first|refine zo T rfl ?_|refine zl ?_);conv=>whnf))
   refine W_cond rfl (fun h2=>?_) (fun h2=>?_)
   ·have h2:(!decide (a2 = b2)) = true:=h2
    ((conv=>whnf);repeat'((first|refine zo T rfl ?_|refine zl ?_);conv=>whnf))
    refine W_ret ⟨.inr rfl,.one (.p _ _ _ (.cons (.v _ _ (bad fun e=>?_)) .nil))⟩
    cases e
    simp at h2
   ·have h2:(!decide (a2 = b2)) = false:=h2
    have h2:a2 = b2:=by simpa using h2
    ((conv=>whnf);repeat'((first|refine zo T rfl ?_|refine zl ?_);conv=>whnf))
    refine .inl ⟨eqRsCon,(a3,b3),eqRatS_valid,⟨ha.2.1,hb.2.1⟩,.cons (.same _ _) (.cons (.same _ _) .nil),?_⟩
    ((conv=>whnf);repeat'((first|refine zo T rfl ?_|refine zl ?_);conv=>whnf))
    refine W_cond rfl (fun h3=>?_) (fun h3=>?_)
    ·have h3:(!decide (a3 = b3)) = true:=h3
     ((conv=>whnf);repeat'((first|refine zo T rfl ?_|refine zl ?_);conv=>whnf))
     refine W_ret ⟨.inr rfl,.one (.p _ _ _ (.cons (.v _ _ (bad fun e=>?_)) .nil))⟩
     cases e
     simp at h3
    ·have h3:(!decide (a3 = b3)) = false:=h3
     have h3:a3 = b3:=by simpa using h3
     ((conv=>whnf);repeat'((first|refine zo T rfl ?_|refine zl ?_);conv=>whnf))
     refine .inl ⟨eqNdsCon,(a4,b4),eqNodeS_valid,⟨ha.2.2,hb.2.2⟩,.cons (.same _ _) (.cons (.same _ _) .nil),?_⟩
     ((conv=>whnf);repeat'((first|refine zo T rfl ?_|refine zl ?_);conv=>whnf))
     refine W_cond rfl (fun h4=>?_) (fun h4=>?_)
     ·have h4:(!decide (a4 = b4)) = true:=h4
      ((conv=>whnf);repeat'((first|refine zo T rfl ?_|refine zl ?_);conv=>whnf))
      refine W_ret ⟨.inr rfl,.one (.p _ _ _ (.cons (.v _ _ (bad fun e=>?_)) .nil))⟩
      cases e
      simp at h4
     ·have h4:(!decide (a4 = b4)) = false:=h4
      have h4:a4 = b4:=by simpa using h4
      ((conv=>whnf);repeat'((first|refine zo T rfl ?_|refine zl ?_);conv=>whnf))
      refine W_cond rfl (fun h5=>?_) (fun h5=>?_)
      ·have h5:(a5 != b5) = true:=h5
       ((conv=>whnf);repeat'((first|refine zo T rfl ?_|refine zl ?_);conv=>whnf))
       refine W_ret ⟨.inr rfl,.one (.p _ _ _ (.cons (.v _ _ (bad fun e=>?_)) .nil))⟩
       cases e
       simp at h5
      ·have h5:(a5 != b5) = false:=h5
       have h5:a5 = b5:=bne_eq_false_iff_eq.1 h5
       ((conv=>whnf);repeat'((first|refine zo T rfl ?_|refine zl ?_);conv=>whnf))
       refine W_ret ⟨.inr rfl,.one (.p _ _ _ (.cons (.v _ _ (yes ?_)) .nil))⟩
       show Gr.mk a0 a1 a2 a3 a4 a5 = Gr.mk b0 b1 b2 b3 b4 b5
       rw [h0,h1,h2,h3,h4,h5]
end Go.Proofs.YtijldkknhphgcaaGreat.Pv
end

section
/- The sizes of the arguments. No condition. -/
set_option linter.unusedVariables false
set_option linter.unusedSimpArgs false
namespace Go.Proofs.YtijldkknhphgcaaGreat.Pv
open Go.RowKit
def szN (n:Nat) (left:Int):Int:=if left - n < 0 then -1 else left - n
def LeftOk (left:Int):Prop:=0 ≤ left ∧ left ≤ 1048576
def Short (l:List Nat):Prop:=l.length ≤ 9223372036854775807
def szLCon:Con:=⟨List Nat × Int,fun g=>[(false,[limR g.1]),(false,[.v (.int .i64 g.2)])],fun g=>Short g.1 ∧ LeftOk g.2,fun _ g=>int .i64 (szN g.1.length g.2),true⟩
theorem szUint32S_valid:Valid Tryz.prog 76 szLCon:=by
 refine valid_intro (ts:=[4]) szLCon Tryz.func76 rfl rfl rfl (by decide) (fun _=>Nat.le_of_ble_eq_true rfl) ?_
 rintro ⟨l,left⟩ ⟨(h1:l.length ≤ 9223372036854775807),(h2:0 ≤ left ∧ left ≤ 1048576)⟩ nm nx
 have hlen:(l.map limRow).length = l.length:=by simp
 ((conv=>whnf);repeat'((first|refine zo T rfl ?_|refine zl ?_);conv=>whnf))
 refine ⟨by show _ ≤ left - ((l.map limRow).length:Int) ∧ left - ((l.map limRow).length:Int) ≤ _;omega,?_⟩
 ((conv=>whnf);repeat'((first|refine zo T rfl ?_|refine zl ?_);conv=>whnf))
 have e:(if left - (l.length:Int) < 0 then -1 else left - (l.length:Int)) = szN l.length left:=rfl
 refine W_cond rfl (fun h=>?_) (fun h=>?_)
 ·have h:decide (left - ((l.map limRow).length:Int) < 0) = true:=h
  rw [hlen] at h
  rw [if_pos (of_decide_eq_true h)] at e
  ((conv=>whnf);repeat'((first|refine zo T rfl ?_|refine zl ?_);conv=>whnf))
  exact W_ret ⟨.inr rfl,.one (.p _ _ _ (.cons (.v _ _ (congrArg (Value.int .i64) e)) .nil))⟩
 ·have h:decide (left - ((l.map limRow).length:Int) < 0) = false:=h
  rw [hlen] at h
  rw [if_neg (of_decide_eq_false h)] at e
  ((conv=>whnf);repeat'((first|refine zo T rfl ?_|refine zl ?_);conv=>whnf))
  refine W_ret ⟨.inr rfl,.one (.p _ _ _ (.cons (.v _ _ ?_) .nil))⟩
  show Value.int .i64 (left - ((l.map limRow).length:Int)) = _
  rw [hlen]
  exact congrArg (Value.int .i64) e
end Go.Proofs.YtijldkknhphgcaaGreat.Pv
end
