/- Texts of one proof, one behind the other: each tells what it proves. -/
import Derived.Test.YtijldkknhphgcaaGreatCCheckGraph7

section
/- The method div of naturals, long division, where the dividend has more than two limbs. The same walk as in the text before it. Conditions: those of that text. -/
set_option linter.unusedVariables false
set_option linter.unusedSimpArgs false
namespace Go.Proofs.YtijldkknhphgcaaGreat.Hand
open Go.RowKit Go.Proofs.YtijldkknhphgcaaGreatW.PrintWords Go.Proofs.YtijldkknhphgcaaGreatW.PrintLast Go.Proofs.YtijldkknhphgcaaGreatW.PrintMore
set_option maxHeartbeats 800000 in
set_option maxRecDepth 100000 in
theorem div_big2 (A A':Option Addr) (c c':Nat) (l l':List Int) (w:World) (hr:(Kd.int .u32).C w A l.length l) (hr':(Kd.int .u32).C w A' l'.length l') (hl:Limbs l) (hl':Limbs l') (hp:Plain l) (hp':Plain l') (e1:decide (l.length ≤ 2) = false) (hle:val l' ≤ val l) (h2:2 ≤ l'.length) (hn:l.length ≤ 1099511627776) :
  Calls Tryz.prog 136 #[.slice A l.length c,.slice A' l'.length c'] w (DivPost w.heap.size w (lim (val l / val l')) (lim (val l % val l'))):=by
 have HR:=Aside0.mk hr
 have HR':=Aside0.mk hr'
 have HL:=Aside0.mk hl
 have HL':=Aside0.mk hl'
 have hlen:=length_le_of_val hl hl' hp' hle
 obtain ⟨cv,hcv,hcv0⟩:∃ cv:Int,cmpN (val l) (val l') = cv ∧ 0 ≤ cv:=by
  refine ⟨_,rfl,?_⟩
  unfold cmpN
  rw [if_neg (by omega)]
  split <;> omega
 have HC:=Aside0.mk hcv
 have HP:=Aside0.mk hp
 have HP':=Aside0.mk hp'
 -- the divisor's top limb
 obtain ⟨s1,hs1⟩:∃ s1,l'.length = s1 + 1:=⟨l'.length - 1,by omega⟩
 have hne':l' ≠ []:=by intro e;subst e;simp at hs1
 have ht0:rd l' (s1:Int) ≠ 0:=by
  have h3:=hp' hne'
  rw [List.getLast_eq_getElem] at h3
  rw [rd_lt (by omega)]
  simpa only [hs1,Nat.add_sub_cancel] using h3
 have ht1:=limbs_rd hl' (s1:Int)
 obtain ⟨t,ht⟩:∃ t,t = rd l' (s1:Int):=⟨_,rfl⟩
 rw [← ht] at ht0 ht1
 obtain ⟨k,hk,hk31,hb1,hb2⟩:=lead_top t.toNat (by omega) (by omega)
 obtain ⟨ad,eA,hx⟩:=Kd.at_int hr' (s1:Int) (by omega) (by omega)
 subst eA
 rw [Int.toNat_natCast,← ht] at hx
 have HT:=Aside0.mk ht
 have HK:=Aside0.mk hk
 have HB1:=Aside0.mk hb1
 have HB2:=Aside0.mk hb2
 have HS1:=Aside0.mk hs1
 have HLE:=Aside0.mk hle
 have hl1:((l'.length:Int) == 1) = false:=by rw [beq_eq_false_iff_ne];omega
 have hl2:(l'.length == 1) = false:=by rw [beq_eq_false_iff_ne];omega
 have hi1:(l'.length:Int) - 1 = (s1:Int):=by omega
 have hi2:IntKind.i64.wrap ((l'.length:Int) - 1) = (s1:Int):=by rw [hi1];exact IntWalk.i64_in _ ⟨by omega,by omega⟩
 have hi3:(s1:Int) < (l'.length:Int):=by omega
 clear hr hr' hl hl' hp hp' hcv ht hk hb1 hb2 hs1 hle hne' ht0 
 go_enter Tryz.func136,Tryz.ntmps136
 go_wp2_with fail
 refine (small_at _ _ _ _ HR.out HL.out).mono ?_
 rintro e w1 ⟨rfl,hd⟩
 have HD:=Aside0.mk hd.below
 clear hd
 go_wp2_with fail
 refine (small_at _ _ _ _ (Kd.C_below HR'.out HD.out) HL'.out).mono ?_
 rintro e w2 ⟨rfl,hd⟩
 have HDB:=Aside0.mk (HD.out.trans ((hd.below).mono HD.out.size))
 clear hd HD
 go_wp2_with fail
 refine (cmp_calls _ _ _ _ _ _ _ (Kd.C_below HR.out HDB.out) (Kd.C_below HR'.out HDB.out) HL.out HL'.out HP.out HP'.out).mono ?_
 rintro e w3 ⟨rfl,hd⟩
 have HDC:=Aside0.mk (HDB.out.trans ((hd.below).mono HDB.out.size))
 clear hd HDB
 rw [HC.out]
 replace hx:=(HDC.out.cell (World.block_lt_of_cell? w _ hx)).trans hx
 go_wp2_with fail
 refine (Tryz.bits_LeadingZeros32 t _ ht1.1 (by omega)).mono ?_
 rintro e w4 ⟨rfl,rfl⟩
 rw [HK.out]
 go_wp2_with fail
 refine (left_calls _ _ _ _ _ (Kd.C_below HR.out HDC.out) HL.out hk31 (by omega)).mono ?_
 rintro e w5 ⟨vu,uo,rfl,hou,hbu,hmu⟩
 have hul:=hmu.1
 obtain ⟨gu,cu,hvu,hgu,hgul,hcu⟩:=Kd.R_form hou (by omega)
 subst hvu
 rw [hul] at hou ⊢
 have HU0:=Aside0.mk (Kd.R_mono (Kd.R_bound (Kd.R_lower hou HDC.out.size)) (fun k hk=>hk.2.2.1:∀ k,_ → k < w5.heap.size))
 have HB5:=Aside0.mk (HDC.out.trans (hbu.mono HDC.out.size))
 have HMU:=Aside0.mk hmu
 clear hou hbu hmu hul hcu
 go_wp2_with fail
 refine (left_calls _ _ _ _ _ (Kd.C_below HR'.out HB5.out) HL'.out hk31 (by omega)).mono ?_
 rintro e w6 ⟨vm,mo,rfl,hom,hbm,hmm⟩
 have hml:=hmm.1
 obtain ⟨gm,cm,hvm,hgm,hgml,hcm⟩:=Kd.R_form hom (by omega)
 subst hvm
 rw [hml] at hom ⊢
 have htop:=norm_top HL'.out (by omega) hmm (by rw [show ((l'.length - 1:Nat):Int) = (s1:Int) from by omega,← HT.out];exact HB1.out) (by rw [show ((l'.length - 1:Nat):Int) = (s1:Int) from by omega,← HT.out];exact HB2.out)
 have hom2:=Kd.R_take (m:=l'.length) (Kd.R_bound hom) (by omega)
 have hLm:Limbs (mo.take l'.length):=hmm.2.1.take _
 obtain ⟨m,hm⟩:∃ m,m = mo.take l'.length:=⟨_,rfl⟩
 rw [← hm] at htop hom2 hLm
 have HM0:=Aside0.mk (Kd.R_mono hom2 (fun k hk=>⟨hk.2.1,hk.2.2.1⟩:∀ k,_ → w5.heap.size ≤ k ∧ k < w6.heap.size))
 have HB6:=Aside0.mk (HB5.out.trans (hbm.mono HB5.out.size))
 have HU1:=Aside0.mk (Kd.R_below HU0.out hbm)
 have HTOP:=Aside0.mk htop
 have HLM:=Aside0.mk hLm
 have hs56:w5.heap.size ≤ w6.heap.size:=hbm.size
 have hs5:w.heap.size ≤ w5.heap.size:=HB5.out.size
 clear hom hom2 hbm hmm hml hcm htop hm hLm HU0 HB5
 have hcml:l'.length ≤ cm:=(Kd.R_reads' HM0.out).2.1
 have hmk:∀ W:World,(Instr.makeSlice 117 (.int .i64 ((l.length:Int) - (l'.length:Int) + 1)) (.int .i64 ((l.length:Int) - (l'.length:Int) + 1))).run Tryz.prog W = .ok (.slice (some ⟨W.heap.size,0,none⟩) (l.length - l'.length + 1) (l.length - l'.length + 1)) (W.alloc (.cells (madeCells #[.int .u32 0] (l.length - l'.length + 1)) 134)):=by
  intro W
  rw [show ((l.length:Int) - (l'.length:Int) + 1) = ((l.length - l'.length + 1:Nat):Int) from by omega]
  exact print_make 117 134 .u32 4 Tryz.underlying117 infoU (by omega) _ (by omega) W
 have hlenI:(l'.length:Int) ≤ (l.length:Int):=by omega
 go_wp2
 have hno:l.length - l'.length + 1 = l.length - l'.length + 1:=rfl
 have hstart:=divIn_start (mo:=m) (m:=l') (n:=l) (no:=uo) hk31 HL.out HMU.out HTOP.out.1 HTOP.out.2.2 (by omega) hlen HLM.out (by rw [HTOP.out.2.2,show ((l'.length - 1:Nat):Int) = (s1:Int) from by omega];rw [show ((l'.length - 1:Nat):Int) = (s1:Int) from by omega] at HTOP;exact HTOP.out.2.1) rfl
 have HST:=Aside0.mk hstart
 have HMEM:Aside0 (DivMem w w5.heap.size w6.heap.size gu gm cu cm (l.length + 1) l'.length (l.length - l'.length + 1) m uo (List.replicate (l.length - l'.length + 1) 0) ((w6.alloc (.cells (madeCells #[.int .u32 0] (l.length - l'.length + 1)) 134)).alloc (.cells #[.slice (some ⟨w6.heap.size,0,none⟩) (l.length - l'.length + 1) (l.length - l'.length + 1)] 117))):=by
  have hbx:=Blk.new (w6.alloc (.cells (madeCells #[.int .u32 0] (l.length - l'.length + 1)) 134)) 117 #[.slice (some ⟨w6.heap.size,0,none⟩) (l.length - l'.length + 1) (l.length - l'.length + 1)]
  rw [show (w6.alloc (.cells (madeCells #[.int .u32 0] (l.length - l'.length + 1)) 134)).heap.size = w6.heap.size + 1 from by simp] at hbx
  exact ⟨⟨Kd.R_alloc (Kd.R_alloc HU1.out _) _,Kd.R_alloc (Kd.R_alloc HM0.out _) _,Kd.R_alloc (Kd.R_of_own (by rw [List.length_replicate];exact own_made w6 w6.heap.size 134 .u32 _ (Nat.le_refl _) (by omega)) (fun k hk=>by simpa [Value.ownBlock] using hk.symm)) _,hbx,below_alloc (below_alloc HB6.out _) _,hs5,hs56⟩⟩
 clear hstart HU1 HM0 HB6 HMU hmk hno hx
 have hsl:=HTOP.out.2.2
 have HSL:=Aside0.mk hsl
 clear hsl
 go_loopg [17] (l.length - l'.length + 1) (fun g v17 w'=>v17 = .int .i64 ((g:Int) - 1) ∧ Aside0 (g ≤ l.length - l'.length + 1) ∧ ∃ u Q:List Int,Aside0 (DivIn m (val l * 2 ^ k) l.length g u Q) ∧ Aside0 (DivMem w w5.heap.size w6.heap.size gu gm cu cm (l.length + 1) l'.length (l.length - l'.length + 1) m u Q w'))
 case atStart=>exact ⟨by go_num,⟨Nat.le_refl _⟩,_,_,HST,HMEM⟩
 case round =>
  clear HST HMEM
  obtain ⟨rfl,HG,u,Q,HI,HMEM⟩:=hrel
  cases gk with
  | zero =>
   -- BEGIN TAIL
   have hend:=divIn_end HI.out
   have HEND:=Aside0.mk hend
   have HUL:=Aside0.mk HI.out.1
   have HULi:=Aside0.mk HI.out.2.1
   obtain ⟨z17,hz17⟩:∃ z17:Int,z17 = ((0:Nat):Int) - 1:=⟨_,rfl⟩
   rw [← hz17]
   have hd17:decide (0 ≤ z17) = false:=decide_eq_false (by omega)
   have hxlt:w6.heap.size + 1 < wr.heap.size:=World.block_lt_of_cell? wr _ (HMEM.out.x.cell 0)
   have hgug:gu < wr.heap.size:=by have:=HMEM.out.gu_lt;omega
   have HMT:=Aside0.mk (HMEM.out.alloc (.cells #[.slice (some ⟨gu,0,none⟩) l'.length cu] 117))
   have HBX:=Aside0.mk (Blk.new wr 117 #[.slice (some ⟨gu,0,none⟩) l'.length cu])
   have HBK:Aside0 (BackIn k u 0 u):=⟨backIn_start hk31 HULi.out (by rw [HEND.out.2.1,HTOP.out.1,Nat.mul_mod_mul_right];exact Nat.mul_mod_left _ _)⟩
   have hcuc:l'.length ≤ cu:=by have:=(Kd.R_reads' HMEM.out.u).2.1;omega
   clear hend hz17 HG
   go_wp2
   go_loopg [291] l'.length (fun gn v291 wc=>∃ i:Nat,v291 = .int .i64 (i:Int) ∧ Aside0 (i + gn = l'.length) ∧ ∃ o:List Int,Aside0 (BackIn k u i o) ∧ Aside0 (DivMem w w5.heap.size w6.heap.size gu gm cu cm (l.length + 1) l'.length (l.length - l'.length + 1) m o Q wc) ∧ Aside0 (Blk wc wr.heap.size 117 #[.slice (some ⟨gu,0,none⟩) l'.length cu]))
   case atStart=>exact ⟨0,rfl,⟨by omega⟩,u,HBK,HMT,HBX⟩
   case round =>
    clear HMEM HMT HBX HBK
    obtain ⟨i,rfl,HIX,o,HBK,HMEM,HBX⟩:=hrel
    by_cases hlt:i < l'.length
    ·have hol:o.length = l.length + 1:=by have:=HBK.out.1;have:=HUL.out;omega
     obtain ⟨hcx,hfx⟩:=HMEM.out.cellU i (by omega)
     obtain ⟨hcy,hfy⟩:=HMEM.out.cellU (i + 1) (by omega)
     have hbr:=HBX.out.cell 0
     have xb:=limbs_rd HBK.out.2.1 (i:Int)
     have yb:=limbs_rd HBK.out.2.1 ((i + 1:Nat):Int)
     obtain ⟨x,hx⟩:∃ x,x = rd o (i:Int):=⟨_,rfl⟩
     obtain ⟨y,hy⟩:∃ y,y = rd o ((i + 1:Nat):Int):=⟨_,rfl⟩
     rw [← hx] at hcx xb
     rw [← hy] at hcy yb
     have HX:=Aside0.mk hx
     have HY:=Aside0.mk hy
     have n1:(i:Int) < (l.length:Int) + 1:=by omega
     have n2:(i:Int) < (l'.length:Int):=by omega
     have n3:(i:Int) + 1 < (l.length:Int) + 1:=by omega
     have hxr:(rd u (i:Int)).toNat = x.toNat:=by rw [hx,HBK.out.rd_eq i (Nat.le_refl _)]
     have hyr:(rd u ((i + 1:Nat):Int)).toNat = y.toNat:=by rw [hy,HBK.out.rd_eq (i + 1) (by omega)]
     obtain ⟨t1,ht1',hq1,hq2,hq3⟩:=back_low k x xb
     have HXR:=Aside0.mk hxr
     have HYR:=Aside0.mk hyr
     have HQ1:=Aside0.mk hq1
     clear hx hy hol hxr hyr hq1
     rcases Nat.eq_zero_or_pos k with hk0 | hk0
     ·have d1:decide ((0:Int) < (k:Int)) = false:=decide_eq_false (by omega)
      have d1':decide (0 < k) = false:=decide_eq_false (by omega)
      have hkk:=Aside0.mk hk0
      clear hk0
      go_wp2
      go_roundg (gk - 1)
      case measure=>have:=HIX.out;omega
      case rel=>exact ⟨i + 1,by go_num,⟨by have:=HIX.out;omega⟩,_,⟨backIn_step hk31 HULi.out HBK.out (by have:=HUL.out;omega) (by rw [HQ1.out,HXR.out,hkk.out,Nat.pow_zero,Nat.mod_one,Nat.zero_mul];rfl) hq2 hq3⟩,⟨HMEM.out.setU i _⟩,⟨HBX.out.far (Nat.ne_of_gt hgug) _⟩⟩
     ·have d1:decide ((0:Int) < (k:Int)) = true:=decide_eq_true (by omega)
      by_cases hl2:i + 1 < l'.length
      ·have d2:decide ((i:Int) + 1 < (l'.length:Int)) = true:=decide_eq_true (by omega)
       obtain ⟨t2,ht2',hr1,hr2,hr3⟩:=back_or k hk0 hk31 x y xb yb
       have HT2:=Aside0.mk ht2'
       have HR1:=Aside0.mk hr1
       clear ht1' ht2' hr1
       go_wp2
       go_region
       all_goals
        rw [HT2.out]
        go_wp2
        go_roundg (gk - 1)
        case measure=>have:=HIX.out;omega
        case rel=>
         have hst:=backIn_step (t:=t2) hk31 HULi.out HBK.out (by have:=HUL.out;omega) (by rw [HR1.out,HXR.out,HYR.out]) hr2 hr3
         have e:(o.set i (x / 2 ^ k)).set i t2 = o.set i t2:=List.set_set ..
         exact ⟨i + 1,by go_num,⟨by have:=HIX.out;omega⟩,_,⟨hst⟩,⟨e ▸ ((HMEM.out.setU i _).setU i t2).drew⟩,⟨((HBX.out.far (Nat.ne_of_gt hgug) _).far (Nat.ne_of_gt hgug) _).drew⟩⟩
      ·have d2:decide ((i:Int) + 1 < (l'.length:Int)) = false:=decide_eq_false (by omega)
       go_wp2
       go_roundg (gk - 1)
       case measure=>have:=HIX.out;omega
       case rel=>exact ⟨i + 1,by go_num,⟨by have:=HIX.out;omega⟩,_,⟨backIn_step hk31 HULi.out HBK.out (by have:=HUL.out;omega) (by rw [HQ1.out,HXR.out,top_zero (n:=i + 1) HULi.out (by have:=HUL.out;omega) (by have:=HEND.out.2.2;have h9:=val_lt HLM.out;rw [HSL.out,show l'.length = i + 1 from by omega] at h9;omega)];simp) hq2 hq3⟩,⟨HMEM.out.setU i _⟩,⟨HBX.out.far (Nat.ne_of_gt hgug) _⟩⟩
    ·have hie:i = l'.length:=by have:=HIX.out;omega
     subst hie
     have hbr:=HBX.out.cell 0
     have hbx:=HMEM.out.x.cell 0
     have htk:(o.take l'.length).length = l'.length:=by rw [List.length_take,HBK.out.1];have:=HUL.out;omega
     have HTK:=Aside0.mk htk
     clear htk
     go_wp2_with fail
     refine (trim_calls (w6.heap.size + 1) (some ⟨w6.heap.size,0,none⟩) (l.length - l'.length + 1) Q _ (by rw [← HMEM.out.n_eq];exact HMEM.out.x) (by have:=(Kd.R_reads' HMEM.out.q).2.2;exact this) (by rw [← HMEM.out.n_eq];exact Nat.le_refl _)).mono ?_
     rintro e wt ⟨rfl,hg,hb⟩
     have HQt:=Aside0.mk (Kd.R_take (m:=trimN Q) (Kd.R_grown HMEM.out.q hg (by rintro k rfl h;injection h with h;omega)) (trimN_le _))
     have HUt:=Aside0.mk (Kd.R_take (m:=l'.length) (Kd.R_grown HMEM.out.u hg (by rintro k hk h;injection h with h;omega)) (by rw [HBK.out.1];have:=HUL.out;omega))
     have HBt:=Aside0.mk (pw_below_grown HMEM.out.b _ HMEM.out.b.size hg (by intro k hk;injection hk with hk;omega))
     have HXt:=Aside0.mk (HBX.out.grown hg (by intro h;injection h with h;omega))
     have hbr2:=HXt.out.cell 0
     clear hg hb hbr hbx
     go_wp2_with fail
     refine (trim_calls _ (some ⟨gu,0,none⟩) cu (o.take l'.length) _ (by rw [HTK.out];exact HXt.out) ((Kd.R_reads' HUt.out).2.2) (by rw [HTK.out];exact hcuc)).mono ?_
     rintro e wv ⟨rfl,hg,hb⟩
     have HQv:=Aside0.mk (Kd.R_grown HQt.out hg (by rintro k rfl h;injection h with h;omega))
     have HUv:=Aside0.mk (Kd.R_take (m:=trimN (o.take l'.length)) (Kd.R_grown HUt.out hg (by rintro k hk h;injection h with h;omega)) (trimN_le _))
     have HBv:=Aside0.mk (pw_below_grown HBt.out _ HBt.out.size hg (by intro k hk;injection hk with hk;omega))
     clear hg hb
     go_wp2
     go_ret2
     have hv:=HEND.out
     have hmv:=HTOP.out.1
     have hpk:0 < 2 ^ k:=Nat.pow_pos (by omega)
     have hq:Q.take (trimN Q) = lim (val l / val l'):=by
      have:=trimL_eq HI.out.2.2.2.1
      rw [hv.1,hmv,Nat.mul_div_mul_right _ _ hpk] at this
      exact this
     have hr:(o.take l'.length).take (trimN (o.take l'.length)) = lim (val l % val l'):=back_fin HLM.out HULi.out HSL.out (by have:=HUL.out;omega) hv.2.2 hmv hv.2.1 HBK.out
     rw [← hq,← hr]
     have hne1:∀ j:Nat,j = w6.heap.size → some j ≠ (Value.slice (some ⟨gu,0,none⟩) (trimN (o.take l'.length)) cu).ownBlock:=by
      intro j hj h
      have h':j = gu:=Option.some.inj h
      omega
     have hne2:∀ j:Nat,j < w5.heap.size → some j ≠ (Value.slice (some ⟨w6.heap.size,0,none⟩) (trimN Q) (l.length - l'.length + 1)).ownBlock:=by
      intro j hj h
      have h':j = w6.heap.size:=Option.some.inj h
      omega
     exact ⟨_,_,rfl,Kd.R_mono (Kd.R_lower HQv.out (by omega)) hne1,Kd.R_mono HUv.out hne2,HBv.out⟩
   -- END TAIL
  | succ j =>
   -- BEGIN STEP
   have hj0:=HG.out
   rw [show ((j + 1:Nat):Int) - 1 = (j:Int) from by omega]
   obtain ⟨s2,hs2⟩:∃ s2,s1 = s2 + 1:=⟨s1 - 1,by omega⟩
   have hul:=HI.out.1
   have hML:=HSL.out
   have hpos:0 < val m:=by
    have h5:=HI.out.2.2.2.2.1
    rcases Nat.eq_zero_or_pos (val m) with h6 | h6
    ·rw [h6,Nat.zero_mul] at h5;omega
    ·exact h6
   obtain ⟨v1,hv1⟩:∃ v1:Nat,(v1:Int) = rd m (s1:Int):=⟨(rd m (s1:Int)).toNat,by have:=limbs_rd HLM.out (s1:Int);omega⟩
   obtain ⟨v2,hv2⟩:∃ v2:Nat,(v2:Int) = rd m (s2:Int):=⟨(rd m (s2:Int)).toNat,by have:=limbs_rd HLM.out (s2:Int);omega⟩
   obtain ⟨u1,hu1⟩:∃ u1:Nat,(u1:Int) = rd u ((j + l'.length:Nat):Int):=⟨(rd u ((j + l'.length:Nat):Int)).toNat,by have:=limbs_rd HI.out.2.1 ((j + l'.length:Nat):Int);omega⟩
   obtain ⟨u2,hu2⟩:∃ u2:Nat,(u2:Int) = rd u ((j + s1:Nat):Int):=⟨(rd u ((j + s1:Nat):Int)).toNat,by have:=limbs_rd HI.out.2.1 ((j + s1:Nat):Int);omega⟩
   obtain ⟨u3,hu3⟩:∃ u3:Nat,(u3:Int) = rd u ((j + s2:Nat):Int):=⟨(rd u ((j + s2:Nat):Int)).toNat,by have:=limbs_rd HI.out.2.1 ((j + s2:Nat):Int);omega⟩
   have hest:=estIn_start (m:=m) (u:=u) (j:=j) HLM.out HI.out.2.1 (by omega) (by omega) (by have:=HTOP.out.2.1;rwa [hML]) HI.out.2.2.2.2.1 v1 v2 u1 u2 u3 (by rw [hv1];congr 1;omega) (by rw [hv2];congr 1;omega) (by rw [hu1];congr 1;omega) (by rw [hu2];congr 1;omega) (by rw [hu3];congr 1;omega)
   have hq:=divIn_digit HI.out hpos
   obtain ⟨top,htop⟩:∃ top,top = u1 * 4294967296 + u2:=⟨_,rfl⟩
   rw [← htop] at hest
   obtain ⟨qd,hqd⟩:∃ qd,qd = val u / (val m * 4294967296 ^ j):=⟨_,rfl⟩
   rw [← hqd] at hest
   have hb:=hest
   obtain ⟨b1,b2,b3,b4,b5,b6,_,_,_,_,b7⟩:=hb
   have HEST:=Aside0.mk hest
   have HQD:=Aside0.mk hqd
   have HV1:=Aside0.mk hv1
   have HV2:=Aside0.mk hv2
   have HU1:=Aside0.mk hu1
   have HU2:=Aside0.mk hu2
   have HU3:=Aside0.mk hu3
   have HTP:=Aside0.mk htop
   have hu1b:u1 < 4294967296:=by have:=limbs_rd HI.out.2.1 ((j + l'.length:Nat):Int);omega
   have hu2b:u2 < 4294967296:=by have:=limbs_rd HI.out.2.1 ((j + s1:Nat):Int);omega
   -- cells and numbers for the walk
   have hcu1:=(HMEM.out.cellU (j + l'.length) (by omega)).1
   have hcu2:=(HMEM.out.cellU (j + s1) (by omega)).1
   have hcu3:=(HMEM.out.cellU (j + s2) (by omega)).1
   have hcm1:=HMEM.out.cellM s1 (by omega)
   have hcm2:=HMEM.out.cellM s2 (by omega)
   obtain ⟨x1,hx1⟩:∃ x1:Int,x1 = (u1:Int):=⟨_,rfl⟩
   obtain ⟨x2,hx2⟩:∃ x2:Int,x2 = (u2:Int):=⟨_,rfl⟩
   obtain ⟨x3,hx3⟩:∃ x3:Int,x3 = (u3:Int):=⟨_,rfl⟩
   obtain ⟨y1,hy1⟩:∃ y1:Int,y1 = (v1:Int):=⟨_,rfl⟩
   obtain ⟨y2,hy2⟩:∃ y2:Int,y2 = (v2:Int):=⟨_,rfl⟩
   obtain ⟨tp,htp⟩:∃ tp:Int,tp = (top:Int):=⟨_,rfl⟩
   rw [← hu1,← hx1] at hcu1
   rw [← hu2,← hx2] at hcu2
   rw [← hu3,← hx3] at hcu3
   rw [← hv1,← hy1] at hcm1
   rw [← hv2,← hy2] at hcm2
   have x1b:0 ≤ x1 ∧ x1 < 4294967296:=by omega
   have x2b:0 ≤ x2 ∧ x2 < 4294967296:=by omega
   have x3b:0 ≤ x3 ∧ x3 < 4294967296:=by omega
   have y1b:2147483648 ≤ y1 ∧ y1 < 4294967296:=by omega
   have y2b:0 ≤ y2 ∧ y2 < 4294967296:=by omega
   have tpb:0 ≤ tp ∧ tp ≤ 18446744073709551615:=by omega
   have n1:IntKind.i64.wrap ((j:Int) + (l'.length:Int)) = (j:Int) + (l'.length:Int):=IntWalk.i64_in _ ⟨by omega,by omega⟩
   have n2:IntKind.i64.wrap ((j:Int) + (l'.length:Int) - 1) = (j:Int) + (s1:Int):=by rw [show (j:Int) + (l'.length:Int) - 1 = (j:Int) + (s1:Int) from by omega];exact IntWalk.i64_in _ ⟨by omega,by omega⟩
   have n2':(j:Int) + (l'.length:Int) - 1 = (j:Int) + (s1:Int):=by omega
   have n3:IntKind.i64.wrap ((j:Int) + (l'.length:Int) - 2) = (j:Int) + (s2:Int):=by rw [show (j:Int) + (l'.length:Int) - 2 = (j:Int) + (s2:Int) from by omega];exact IntWalk.i64_in _ ⟨by omega,by omega⟩
   have n3':(j:Int) + (l'.length:Int) - 2 = (j:Int) + (s2:Int):=by omega
   have n4:IntKind.i64.wrap ((l'.length:Int) - 2) = (s2:Int):=by rw [show (l'.length:Int) - 2 = (s2:Int) from by omega];exact IntWalk.i64_in _ ⟨by omega,by omega⟩
   have n4':(l'.length:Int) - 2 = (s2:Int):=by omega
   have n5:(j:Int) + (l'.length:Int) < (l.length:Int) + 1:=by omega
   have n6:(j:Int) + (s1:Int) < (l.length:Int) + 1:=by omega
   have n7:(j:Int) + (s2:Int) < (l.length:Int) + 1:=by omega
   have n8:(s2:Int) < (l'.length:Int):=by omega
   have n9:(0:Int) ≤ (j:Int) + (l'.length:Int):=by omega
   have n10:(0:Int) ≤ (j:Int) + (s1:Int):=by omega
   have n11:(0:Int) ≤ (j:Int) + (s2:Int):=by omega
   have t1:((j:Int) + (l'.length:Int)).toNat = j + l'.length:=by omega
   have t2:((j:Int) + (s1:Int)).toNat = j + s1:=by omega
   have t3:((j:Int) + (s2:Int)).toNat = j + s2:=by omega
   have m1:IntKind.u64.wrap x1 = x1:=by rw [IntKind.wrap_u64];omega
   have m2:IntKind.u64.wrap x2 = x2:=by rw [IntKind.wrap_u64];omega
   have m3:IntKind.u64.wrap (x1 * 4294967296) = x1 * 4294967296:=by rw [IntKind.wrap_u64];omega
   have m4:Go.bits .or .u64 (x1 * 4294967296) x2 = tp:=by rw [or_join _ _ x2b x1b];omega
   have m5:IntKind.u64.wrap y1 = y1:=by rw [IntKind.wrap_u64];omega
   have m6:(y1 == 0) = false:=by rw [beq_eq_false_iff_ne];omega
   obtain ⟨g0,hg0⟩:∃ g0,g0 = top / v1:=⟨_,rfl⟩
   obtain ⟨r0,hr0⟩:∃ r0,r0 = top % v1:=⟨_,rfl⟩
   rw [← hg0,← hr0] at HEST
   rw [← hr0] at b7
   have hgb:=estIn_bound HEST.out
   obtain ⟨G0,hG0⟩:∃ G0:Int,G0 = (g0:Int):=⟨_,rfl⟩
   obtain ⟨R0,hR0⟩:∃ R0:Int,R0 = (r0:Int):=⟨_,rfl⟩
   have m9:tp / y1 = G0:=by rw [hG0,htp,hy1,hg0];rfl
   have m10:tp % y1 = R0:=by rw [hR0,htp,hy1,hr0];rfl
   have m11:Int.tmod tp y1 = R0:=by rw [Int.tmod_eq_emod_of_nonneg (by omega)];exact m10
   have m12:Int.tdiv tp y1 = G0:=by rw [Int.tdiv_eq_ediv_of_nonneg (by omega)];exact m9
   have G0b:0 ≤ G0 ∧ G0 ≤ 4294967297:=by omega
   have R0b:0 ≤ R0 ∧ R0 < 4294967296:=by omega
   have m13:IntKind.u64.wrap G0 = G0:=by rw [IntKind.wrap_u64];omega
   have HXS:=Aside0.mk (And.intro hx3 (And.intro hy1 (And.intro hy2 htp)))
   have HG0:=Aside0.mk (And.intro hG0 hR0)
   clear hest hqd hv1 hv2 hu1 hu2 hu3 htop hs2 hg0 hr0 hul hML hq hx1 hx2 hx3 hy1 hy2 htp hG0 hR0 b1 b2 b3 b4 b5 b6 b7 hgb hu1b hu2b
   go_wp2
   go_quiet (fail)
   go_upto_block 2 with fail
   have HMEM2:=Aside0.mk (HMEM.out.drewN nq)
   go_cut [19,20] (fun v19 v20 wc=>∃ G:Int,v19 = .int .u64 G ∧ Aside0 (∃ g:Nat,G = (g:Int) ∧ qd ≤ g ∧ g ≤ qd + 1 ∧ g < 4294967296) ∧ Aside0 (DivMem w w5.heap.size w6.heap.size gu gm cu cm (l.length + 1) l'.length (l.length - l'.length + 1) m u Q wc))
   case first =>
    -- BEGIN EST
    go_wp2
    go_loopg [19,20] g0 (fun gn v19 v20 wc=>∃ G R:Int,v19 = .int .u64 G ∧ v20 = .int .u64 R ∧ Aside0 (∃ r:Nat,G = (gn:Int) ∧ R = (r:Int) ∧ EstIn v1 v2 u3 top qd gn r) ∧ Aside0 (DivMem w w5.heap.size w6.heap.size gu gm cu cm (l.length + 1) l'.length (l.length - l'.length + 1) m u Q wc))
    case atStart=>exact ⟨G0,R0,rfl,rfl,⟨r0,HG0.out.1,HG0.out.2,HEST.out⟩,HMEM2⟩
    case round =>
     clear HMEM HMEM2
     obtain ⟨G,R,rfl,rfl,HE,HMEM⟩:=hrel
     obtain ⟨r,hG,hR,hE⟩:=HE.out
     have hgb:=estIn_bound hE
     have hrb:r < 4294967296:=hE.2.2.2.2.2.2.2.2.2.2
     have Gb:0 ≤ G ∧ G ≤ 4294967297:=by omega
     have Rb:0 ≤ R ∧ R < 4294967296:=by omega
     have hcu3:=(HMEM.out.cellU (j + s2) (by have:=HI.out.1;omega)).1
     have hcm1:=HMEM.out.cellM s1 (by have:=HSL.out;have:=HS1.out;omega)
     have hcm2:=HMEM.out.cellM s2 (by have:=HSL.out;have:=HS1.out;omega)
     rw [← HU3.out,← HXS.out.1] at hcu3
     rw [← HV1.out,← HXS.out.2.1] at hcm1
     rw [← HV2.out,← HXS.out.2.2.1] at hcm2
     have HG':=Aside0.mk hG
     have HR2:=Aside0.mk hR
     have HEE:=Aside0.mk hE
     have w1:IntKind.u64.wrap (R * 4294967296) = R * 4294967296:=by rw [IntKind.wrap_u64];omega
     have w2:IntKind.u64.wrap y2 = y2:=by rw [IntKind.wrap_u64];omega
     have w3:IntKind.u64.wrap x3 = x3:=by rw [IntKind.wrap_u64];omega
     obtain ⟨t3,ht3⟩:∃ t3,t3 = x3 + 4294967296 * R:=⟨_,rfl⟩
     have w4:Go.bits .or .u64 (R * 4294967296) x3 = t3:=by rw [ht3];exact or_join _ _ x3b Rb
     have t3b:0 ≤ t3 ∧ t3 ≤ 18446744073709551615:=by omega
     have HT3:=Aside0.mk ht3
     clear HE hG hR hE hgb hrb ht3
     have hcase2:(decide (0 < G / 4294967296) = true ∧ (4294967296 ≤ gk ∨ r * 4294967296 + u3 < gk * v2)) ∨ (decide (0 < G / 4294967296) = false ∧ ∃ p:Int,IntKind.u64.wrap (G * y2) = p ∧ 0 ≤ p ∧ p ≤ 18446744073709551615 ∧ ((decide (t3 < p) = true ∧ (4294967296 ≤ gk ∨ r * 4294967296 + u3 < gk * v2)) ∨ (decide (t3 < p) = false ∧ gk < 4294967296 ∧ gk * v2 ≤ r * 4294967296 + u3))):=by
      have hG:=HG'.out
      have hR:=HR2.out
      have hx3:=HXS.out.1
      have hy2:=HXS.out.2.2.1
      have ht3:=HT3.out
      by_cases hbig:4294967296 ≤ G
      ·exact .inl ⟨decide_eq_true (by omega),.inl (by omega)⟩
      ·have hpb:=limb_prod (x:=G) (y:=y2) ⟨Gb.1,by omega⟩ y2b
       have hpn:G * y2 = ((gk * v2:Nat):Int):=by rw [hG,hy2];rfl
       refine .inr ⟨decide_eq_false (by omega),G * y2,by rw [IntKind.wrap_u64];exact Int.emod_eq_of_lt hpb.1 (by omega),hpb.1,by omega,?_⟩
       by_cases hlt:t3 < G * y2
       ·exact .inl ⟨decide_eq_true hlt,.inr (by omega)⟩
       ·exact .inr ⟨decide_eq_false hlt,by omega,by omega⟩
     have HY1:=Aside0.mk HXS.out.2.1
     rcases hcase2 with ⟨d1,hT⟩ | ⟨d1,p,w5,p0,p1,⟨d3,hT⟩ | ⟨d3,hX,hX2⟩⟩
     case inr.inr =>
      have HXX:=Aside0.mk (And.intro hX hX2)
      clear hX hX2
      go_wp2
      go_quiet (fail)
      go_wp2
      go_meet
      obtain ⟨h1,h2,h3⟩:=estIn_exit HEE.out HXX.out.1 HXX.out.2
      exact ⟨_,rfl,⟨gk,HG'.out,h1,h2,h3⟩,⟨HMEM.out.drewN _⟩⟩
     all_goals
      have HT:=Aside0.mk hT
      clear hT
      by_cases hbr:4294967296 ≤ R + y1
      ·have d2:decide (0 < (R + y1) / 4294967296) = true:=decide_eq_true (by omega)
       have hG1:1 ≤ G:=by
        have:=estIn_above HEE.out HT.out
        have:=HG'.out
        omega
       have HBR:=Aside0.mk hbr
       clear hbr
       go_wp2
       go_quiet (fail)
       go_wp2
       go_meet
       obtain ⟨h1,h2,h3⟩:=estIn_break HEE.out HT.out (by have:=HBR.out;have:=HR2.out;have:=HY1.out;omega)
       exact ⟨_,rfl,⟨gk - 1,by have:=HG'.out;omega,h1,h2,h3⟩,⟨HMEM.out.drewN _⟩⟩
      ·have d2:decide (0 < (R + y1) / 4294967296) = false:=decide_eq_false (by omega)
       have hG1:1 ≤ G:=by
        have:=estIn_above HEE.out HT.out
        have:=HG'.out
        omega
       have HBR:=Aside0.mk hbr
       clear hbr
       go_wp2
       go_quiet (fail)
       go_wp2
       go_roundg (gk - 1)
       case measure=>have:=HG'.out;omega
       case rel=>exact ⟨_,_,rfl,rfl,⟨r + v1,by have:=HG'.out;omega,by have:=HR2.out;have:=HY1.out;omega,estIn_step HEE.out HT.out (by have:=HBR.out;have:=HR2.out;have:=HY1.out;omega)⟩,⟨HMEM.out.drewN _⟩⟩
    -- END EST
   case rest =>
    clear HMEM HMEM2 HEST HU1 HU2 HU3 HTP HG0 hcu1 hcu2 hcu3 hcm1 hcm2 m1 m2 m3 m4 m5 m6 m9 m10 m11 m12 m13 n1 n2 n2' n3 n3' n4 n4' n5 n6 n7 n8 n9 n10 n11 t1 t2 t3 HV1 HV2 HXS x1b x2b x3b y1b y2b tpb G0b R0b
    obtain ⟨G,rfl,HG3,HMEM⟩:=hcut
    have Gb:0 ≤ G ∧ G < 4294967296:=by obtain ⟨g,h1,h2,h3,h4⟩:=HG3.out;omega
    have HUL:=Aside0.mk HI.out.1
    go_wp2
    go_loopg [21,22,181] l'.length (fun gn v21 v22 v181 wc=>∃ (b c:Int) (i:Nat),v21 = .int .u64 b ∧ v22 = .int .u64 c ∧ v181 = .int .i64 (i:Int) ∧ Aside0 (i + gn = l'.length) ∧ ∃ uu:List Int,Aside0 (∃ bn cn:Nat,b = (bn:Int) ∧ c = (cn:Int) ∧ SubIn G.toNat m u j i cn bn uu) ∧ Aside0 (DivMem w w5.heap.size w6.heap.size gu gm cu cm (l.length + 1) l'.length (l.length - l'.length + 1) m uu Q wc))
    case atStart=>exact ⟨0,0,0,rfl,rfl,rfl,⟨by omega⟩,u,⟨0,0,rfl,rfl,subIn_start HI.out.2.1⟩,HMEM⟩
    case round =>
     clear HMEM
     obtain ⟨b,c2,i,rfl,rfl,rfl,HIX,uu,HSB,HMEM⟩:=hrel
     obtain ⟨gk_2,hgk2⟩:∃ g1,g1 = gk:=⟨_,rfl⟩
     subst hgk2
     by_cases hlt:i < l'.length
     ·-- BEGIN SUB
      obtain ⟨bn,cn,hb,hc,hS⟩:=HSB.out
      have bb:0 ≤ b ∧ b ≤ 1:=by have:=hS.2.2.2.1;omega
      have cb:0 ≤ c2 ∧ c2 < 4294967296:=by have:=hS.2.2.1;omega
      have huul:=hS.1
      obtain ⟨hcu,hfu⟩:=HMEM.out.cellU (i + j) (by have:=HI.out.1;omega)
      have hcm:=HMEM.out.cellM i (by have:=HSL.out;omega)
      obtain ⟨x,hx⟩:∃ x,x = rd m (i:Int):=⟨_,rfl⟩
      obtain ⟨y,hy⟩:∃ y,y = rd uu ((i + j:Nat):Int):=⟨_,rfl⟩
      have xb:=limbs_rd HLM.out (i:Int)
      have yb:=limbs_rd hS.2.1 ((i + j:Nat):Int)
      rw [← hx] at hcm xb
      rw [← hy] at hcu yb
      have hpb:=limb_prod (x:=G) (y:=x) Gb xb
      obtain ⟨p,hp⟩:∃ p,p = G * x:=⟨_,rfl⟩
      have w1:IntKind.u64.wrap (G * x) = p:=by rw [IntKind.wrap_u64,hp];exact Int.emod_eq_of_lt hpb.1 (by omega)
      rw [← hp] at hpb
      obtain ⟨tt,htt⟩:∃ tt,tt = c2 + p:=⟨_,rfl⟩
      have ttb:0 ≤ tt ∧ tt ≤ 18446744073709551615:=by omega
      have w2:c2 + p = tt:=htt.symm
      have w3:Go.bits .and .u64 tt 4294967295 = tt % 4294967296:=by
       rw [u64_and _ _ (by omega) (by omega) (by omega) (by omega)]
       have:=Nat.and_two_pow_sub_one_eq_mod tt.toNat 32
       have e32:(2 ^ 32 - 1:Nat) = 4294967295:=rfl
       have f32:(2 ^ 32:Nat) = 4294967296:=rfl
       rw [e32,f32] at this
       rw [show (4294967295:Int).toNat = 4294967295 from rfl,this]
       omega
      have n1:(i:Int) + (j:Int) < (l.length:Int) + 1:=by omega
      have n2:(i:Int) < (l'.length:Int):=by omega
      obtain ⟨z,hz⟩:∃ z,z = tt % 4294967296 + b:=⟨_,rfl⟩
      have w4:tt % 4294967296 + b = z:=hz.symm
      have zb:0 ≤ z ∧ z ≤ 4294967296:=by omega
      obtain ⟨D,hD⟩:∃ D,D = IntKind.u64.wrap (y - z):=⟨_,rfl⟩
      have w5:IntKind.u64.wrap (y - z) = D:=hD.symm
      have hD2:D % 4294967296 = (y - z) % 4294967296 ∧ 0 ≤ D ∧ D ≤ 18446744073709551615:=by
       rw [IntKind.wrap_u64] at hD
       omega
      have Db:=hD2.2
      have HDE:=Aside0.mk hD2.1
      have htp:tt = (cn:Int) + (G.toNat:Int) * rd m (i:Int):=by rw [htt,hp,hx,hc,Int.toNat_of_nonneg Gb.1]
      have hstep:=subIn_step (t:=tt) (y:=y) (z:=z) HLM.out (by omega) hS (by have:=HSL.out;omega) (by have:=HI.out.1;omega) htp hy (by rw [hz,hb])
      have HSTEP:=Aside0.mk hstep
      clear hz hD hD2 htp hstep htt hp hx hy hb hc hS huul
      by_cases hyz:y < z
      ·have d1:decide (y < z) = true:=decide_eq_true hyz
       have HYZ:=Aside0.mk hyz
       clear hyz
       go_wp2
       go_roundg (gk_2 - 1)
       case measure=>have:=HIX.out;omega
       case rel =>
        have hs:=HSTEP.out
        rw [if_pos HYZ.out,← HDE.out] at hs
        exact ⟨1,_,i + 1,rfl,rfl,by go_num,⟨by have:=HIX.out;omega⟩,_,⟨1,(tt / 4294967296).toNat,rfl,by omega,hs⟩,⟨HMEM.out.setU (i + j) _⟩⟩
      ·have d1:decide (y < z) = false:=decide_eq_false hyz
       have HYZ:=Aside0.mk hyz
       clear hyz
       go_wp2
       go_roundg (gk_2 - 1)
       case measure=>have:=HIX.out;omega
       case rel =>
        have hs:=HSTEP.out
        rw [if_neg (by have:=HYZ.out;omega),← HDE.out] at hs
        exact ⟨0,_,i + 1,rfl,rfl,by go_num,⟨by have:=HIX.out;omega⟩,_,⟨0,(tt / 4294967296).toNat,rfl,by omega,hs⟩,⟨HMEM.out.setU (i + j) _⟩⟩
      -- END SUB
     ·have hie:i = l'.length:=by have:=HIX.out;omega
      subst hie
      obtain ⟨bn,cn,hb,hc,hS⟩:=HSB.out
      have bb:0 ≤ b ∧ b ≤ 1:=by have:=hS.2.2.2.1;omega
      have cb:0 ≤ c2 ∧ c2 < 4294967296:=by have:=hS.2.2.1;omega
      have huul:=hS.1
      have hslm:=HSL.out
      obtain ⟨hcu,hfu⟩:=HMEM.out.cellU (j + l'.length) (by have:=HI.out.1;omega)
      obtain ⟨y,hy⟩:∃ y,y = rd uu ((j + l'.length:Nat):Int):=⟨_,rfl⟩
      have yb:=limbs_rd hS.2.1 ((j + l'.length:Nat):Int)
      rw [← hy] at hcu yb
      obtain ⟨z,hz⟩:∃ z,z = c2 + b:=⟨_,rfl⟩
      have w4:c2 + b = z:=hz.symm
      have zb:0 ≤ z ∧ z ≤ 4294967296:=by omega
      obtain ⟨D,hD⟩:∃ D,D = IntKind.u64.wrap (y - z):=⟨_,rfl⟩
      have wD:IntKind.u64.wrap (y - z) = D:=hD.symm
      have hD2:D % 4294967296 = (y - z) % 4294967296 ∧ 0 ≤ D ∧ D ≤ 18446744073709551615:=by
       rw [IntKind.wrap_u64] at hD
       omega
      have Db:=hD2.2
      have HDE:=Aside0.mk hD2.1
      have n1:(j:Int) + (l'.length:Int) < (l.length:Int) + 1:=by omega
      have hS':SubIn G.toNat m u j m.length cn bn uu:=by rw [hslm];exact hS
      have HS:=Aside0.mk hS'
      have HY:=Aside0.mk (show y = rd uu ((m.length + j:Nat):Int) from by rw [hy];congr 1;omega)
      have HZ:=Aside0.mk (show z = (cn:Int) + (bn:Int) from by rw [hz,hb,hc])
      have hjq:j < Q.length:=by have:=HI.out.2.2.1;omega
      obtain ⟨hcq,hfq⟩:=HMEM.out.cellQ j hjq
      have hbox:=HMEM.out.x.cell 0
      have hqn:(j:Int) < (l.length:Int) - (l'.length:Int) + 1:=by omega
      have hqn2:(j:Int) < ((l.length - l'.length:Nat):Int) + 1:=by omega
      have hqn3:j < l.length - l'.length + 1:=by omega
      have HJQ:=Aside0.mk hjq
      have hg56:gu < w6.heap.size:=by have:=HMEM.out.gu_lt;have:=HMEM.out.s1;omega
      have HLT:=Aside0.mk HI.out.2.2.2.2.1
      clear hz hD hD2 hy hb hc hS hS' huul hslm hlt HSB hjq
      by_cases hyz:y < z
      ·have d1:decide (y < z) = true:=decide_eq_true hyz
       have hG1:1 ≤ G:=by
        obtain ⟨g,hGg,hq1,hq2,hq3⟩:=HG3.out
        have:=digit_high HLM.out HI.out.2.1 (by have:=HSL.out;have:=HI.out.1;omega) HLT.out HS.out HY.out HZ.out hyz
        omega
       have HYZ:=Aside0.mk hyz
       clear hyz
       have HMEM3:=Aside0.mk (HMEM.out.setU (j + l'.length) (D % 4294967296))
       go_wp2
       go_loopg [29,244] l'.length (fun gn v29 v244 wc=>∃ (c3:Int) (i:Nat),v29 = .int .u64 c3 ∧ v244 = .int .i64 (i:Int) ∧ Aside0 (i + gn = l'.length) ∧ ∃ u2:List Int,Aside0 (∃ cn3:Nat,c3 = (cn3:Int) ∧ AddIn m (uu.set (j + l'.length) (D % 4294967296)) j i cn3 u2) ∧ Aside0 (DivMem w w5.heap.size w6.heap.size gu gm cu cm (l.length + 1) l'.length (l.length - l'.length + 1) m u2 Q wc))
       case atStart=>exact ⟨0,0,rfl,rfl,⟨by omega⟩,_,⟨0,rfl,addIn_start (HS.out.2.1.set _ (by omega))⟩,HMEM3⟩
       case round =>
        clear HMEM HMEM3 hcu hfu hcq hfq hbox
        obtain ⟨c3,i,rfl,rfl,HIA,u2,HAD,HMEM⟩:=hrel
        obtain ⟨gk_3,hgk3⟩:∃ g1,g1 = gk:=⟨_,rfl⟩
        subst hgk3
        by_cases hlt:i < l'.length
        ·obtain ⟨cn3,hc3,hA⟩:=HAD.out
         have c3b:0 ≤ c3 ∧ c3 ≤ 1:=by have:=hA.2.2.1;omega
         have hAl:=hA.1
         rw [List.length_set] at hAl
         have hslm:=HSL.out
         obtain ⟨hcu,hfu⟩:=HMEM.out.cellU (i + j) (by have:=HS.out.1;have:=HI.out.1;omega)
         have hcm:=HMEM.out.cellM i (by omega)
         obtain ⟨x,hx⟩:∃ x,x = rd m (i:Int):=⟨_,rfl⟩
         obtain ⟨yy,hyy⟩:∃ yy,yy = rd u2 ((i + j:Nat):Int):=⟨_,rfl⟩
         have xb:=limbs_rd HLM.out (i:Int)
         have yyb:=limbs_rd hA.2.1 ((i + j:Nat):Int)
         rw [← hx] at hcm xb
         rw [← hyy] at hcu yyb
         have hstep:=addIn_step (t:=c3 + (yy + x)) HLM.out hA (by omega) (by have:=HS.out.1;have:=HI.out.1;omega) (by rw [hc3,hyy,hx])
         have HSTEP:=Aside0.mk hstep
         have n1:(i:Int) + (j:Int) < (l.length:Int) + 1:=by omega
         have n2:(i:Int) < (l'.length:Int):=by omega
         clear hx hyy hc3 hA hAl hslm hstep
         go_wp2
         go_roundg (gk_3 - 1)
         case measure=>have:=HIA.out;omega
         case rel=>exact ⟨_,i + 1,rfl,by go_num,⟨by have:=HIA.out;omega⟩,_,⟨_,by omega,HSTEP.out⟩,⟨HMEM.out.setU (i + j) _⟩⟩
        ·have hie:i = l'.length:=by have:=HIA.out;omega
         subst hie
         -- BEGIN BACK
         obtain ⟨cn3,hc3,hA⟩:=HAD.out
         have c3b:0 ≤ c3 ∧ c3 ≤ 1:=by have:=hA.2.2.1;omega
         have hAl:=hA.1
         rw [List.length_set] at hAl
         have hslm:=HSL.out
         obtain ⟨hcu,hfu⟩:=HMEM.out.cellU (j + l'.length) (by have:=HS.out.1;have:=HI.out.1;omega)
         obtain ⟨yy,hyy⟩:∃ yy,yy = rd u2 ((j + l'.length:Nat):Int):=⟨_,rfl⟩
         have yyb:=limbs_rd hA.2.1 ((j + l'.length:Nat):Int)
         rw [← hyy] at hcu yyb
         obtain ⟨hcq,hfq⟩:=HMEM.out.cellQ j HJQ.out
         have hbox:=HMEM.out.x.cell 0
         have HYY:=Aside0.mk hyy
         have HC3:=Aside0.mk hc3
         have HA:=Aside0.mk hA
         clear hlt HIA hyy hc3 hA hAl hslm HAD
         go_wp2
         go_roundg j
         case measure=>omega
         case rel =>
          obtain ⟨g,hGg,hq1,hq2,hq3⟩:=HG3.out
          have hgn:G.toNat = g:=by omega
          have hS:=HS.out
          rw [hgn] at hS
          rw [HQD.out] at hq1 hq2
          have hml:=HSL.out
          have hA:=HA.out
          have hjm:m.length + j = j + l'.length:=by omega
          have hA':AddIn m (uu.set (m.length + j) ((y - z) % 4294967296)) j m.length cn3 u2:=by
           rw [hjm,hml,← HDE.out]
           exact hA
          have hd:=digit_back HLM.out HI.out.2.1 hpos (by have:=HI.out.1;omega) HLT.out hS HY.out HZ.out hq1 hq2 HYZ.out hA'
          rw [hjm,← HYY.out,← HC3.out] at hd
          have hst:=divIn_step (g:=g - 1) HI.out HJQ.out (by omega) hd.2.1 (by rw [List.length_set,hA.1,List.length_set];exact hS.1) hd.2.2.1 hd.2.2.2
          rw [show ((g - 1:Nat):Int) = G - 1 from by have:=hd.1;omega] at hst
          exact ⟨rfl,⟨by omega⟩,_,_,⟨hst⟩,⟨(HMEM.out.setU (j + l'.length) _).setQ j _⟩⟩
         -- END BACK
      ·have d1:decide (y < z) = false:=decide_eq_false hyz
       have HYZ:=Aside0.mk hyz
       clear hyz
       go_wp2
       go_roundg j
       case measure=>omega
       case rel =>
        obtain ⟨g,hGg,hq1,hq2,hq3⟩:=HG3.out
        have hgn:G.toNat = g:=by omega
        have hS:=HS.out
        rw [hgn] at hS
        rw [HQD.out] at hq1 hq2
        have hml:=HSL.out
        have hul:=HI.out.1
        have hd:=digit_right HLM.out HI.out.2.1 hpos (by omega) HLT.out hS HY.out HZ.out hq1 hq2 (by have:=HYZ.out;omega)
        rw [← HDE.out,show m.length + j = j + l'.length from by omega] at hd
        have hst:=divIn_step HI.out HJQ.out hq3 hd.1 (by rw [List.length_set];exact hS.1) hd.2.2.1 hd.2.2.2
        rw [← hGg] at hst
        exact ⟨rfl,⟨by omega⟩,_,_,⟨hst⟩,⟨(HMEM.out.setU (j + l'.length) _).setQ j _⟩⟩
   -- END STEP
end Go.Proofs.YtijldkknhphgcaaGreat.Hand
end
