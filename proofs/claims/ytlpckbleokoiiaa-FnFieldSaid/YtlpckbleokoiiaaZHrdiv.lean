/- RatDiv of the program and of the document. Conditions: both rationals can be read, their elements are limbs, and they have at most 2^20 limbs together. -/
import Derived.Test.YtlpckbleokoiiaaZHscopy
import Derived.Deep.RegionHeld3
set_option linter.unusedVariables false
set_option linter.unusedSimpArgs false
namespace Go.Proofs.Ytlpckbleokoiiaa.Hand
open Go.RowKit Go.Proofs.YtlpckbleokoiiaaW.PrintWords Go.Proofs.YtlpckbleokoiiaaW.PrintLast Go.Proofs.YtlpckbleokoiiaaW.PrintMore
/-- A rational of the call's own is handed back, beside a Boolean. -/
def RatBPost (w : World) (q : Rat) (b : Bool) (e : Ending) (w' : World) : Prop := ∃ A c B d, e = .returned (.tuple #[.agg #[.bool (repr q).neg, .slice A (repr q).num.length c, .slice B (repr q).den.length d], .bool b]) ∧ ratK.M w' w.heap.size (fun _ => True) (repr q) [.bool (repr q).neg, .slice A (repr q).num.length c, .slice B (repr q).den.length d] ∧ Below w.heap.size w w'
theorem ret_ratb {fn : Func} {p u : Tmp} (h : fn.results = #[.cell p 26, .tmp u]) (tmps : Array Value) (w : World) (g : Nat) (a b c v : Value) (hp : tmps.getD p undef = .pointer (some ⟨g, 0, none⟩)) (hv : tmps.getD u undef = v) (hg : Blk w g 26 #[a, b, c]) :
    (results fn tmps).run Try.prog w = .ok (.tuple #[.agg #[a, b, c], v]) w := by
  have hp' : tmps[p]?.getD undef = .pointer (some ⟨g, 0, none⟩) := by simpa using hp
  have hv' : tmps[u]?.getD undef = v := by simpa using hv
  simp [results, h, hp', hv', asAddr, run_loadVar_row w g 26 26 #[a, b, c] (0, 0) _ hg Try.underlying26 rfl infoR]
set_option maxHeartbeats 2000000 in
set_option maxRecDepth 100000 in
theorem RatDiv_bad (r r' : Rt) (A c B d A' c' B' d') (w : World) (ha : ratK.K w r [.bool r.neg, .slice A r.num.length c, .slice B r.den.length d]) (hb : ratK.K w r' [.bool r'.neg, .slice A' r'.num.length c', .slice B' r'.den.length d']) (hg : RtGood r) (hg' : RtGood r') (he : (okR r && okR r') = false) :
    Calls Try.prog 17 #[.agg #[.bool r.neg, .slice A r.num.length c, .slice B r.den.length d], .agg #[.bool r'.neg, .slice A' r'.num.length c', .slice B' r'.den.length d']] w (RatBPost w 0 false) := by
  have hu := Try.underlying26
  have HA := Aside0.mk ha
  have HB := Aside0.mk hb
  have HG := Aside0.mk hg
  have HG' := Aside0.mk hg'
  have HE := Aside0.mk he
  clear ha hb hg hg' he
  go_enter Try.func17, Try.ntmps17
  go_wp2_with fail
  have f0 := (((Blk.new w 26 #[.bool r.neg, .slice A r.num.length c, .slice B r.den.length d]).alloc (.cells #[.bool r'.neg, .slice A' r'.num.length c', .slice B' r'.den.length d'] 26)).alloc (.cells #[.bool false, .slice none 0 0, .slice none 0 0] 26)).alloc (.cells #[.bool r.neg, .slice A r.num.length c, .slice B r.den.length d, .bool r'.neg, .slice A' r'.num.length c', .slice B' r'.den.length d'] 26)
  have f1 := ((Blk.new (w.alloc (.cells #[.bool r.neg, .slice A r.num.length c, .slice B r.den.length d] 26)) 26 #[.bool r'.neg, .slice A' r'.num.length c', .slice B' r'.den.length d']).alloc (.cells #[.bool false, .slice none 0 0, .slice none 0 0] 26)).alloc (.cells #[.bool r.neg, .slice A r.num.length c, .slice B r.den.length d, .bool r'.neg, .slice A' r'.num.length c', .slice B' r'.den.length d'] 26)
  rw [show (w.alloc (.cells #[.bool r.neg, .slice A r.num.length c, .slice B r.den.length d] 26)).heap.size = w.heap.size + 1 from by simp] at f1
  have f2 := (Blk.new ((w.alloc (.cells #[.bool r.neg, .slice A r.num.length c, .slice B r.den.length d] 26)).alloc (.cells #[.bool r'.neg, .slice A' r'.num.length c', .slice B' r'.den.length d'] 26)) 26 #[.bool false, .slice none 0 0, .slice none 0 0]).alloc (.cells #[.bool r.neg, .slice A r.num.length c, .slice B r.den.length d, .bool r'.neg, .slice A' r'.num.length c', .slice B' r'.den.length d'] 26)
  rw [show ((w.alloc (.cells #[.bool r.neg, .slice A r.num.length c, .slice B r.den.length d] 26)).alloc (.cells #[.bool r'.neg, .slice A' r'.num.length c', .slice B' r'.den.length d'] 26)).heap.size = w.heap.size + 1 + 1 from by simp] at f2
  have f3 := Blk.new (((w.alloc (.cells #[.bool r.neg, .slice A r.num.length c, .slice B r.den.length d] 26)).alloc (.cells #[.bool r'.neg, .slice A' r'.num.length c', .slice B' r'.den.length d'] 26)).alloc (.cells #[.bool false, .slice none 0 0, .slice none 0 0] 26)) 26 #[.bool r.neg, .slice A r.num.length c, .slice B r.den.length d, .bool r'.neg, .slice A' r'.num.length c', .slice B' r'.den.length d']
  rw [show (((w.alloc (.cells #[.bool r.neg, .slice A r.num.length c, .slice B r.den.length d] 26)).alloc (.cells #[.bool r'.neg, .slice A' r'.num.length c', .slice B' r'.den.length d'] 26)).alloc (.cells #[.bool false, .slice none 0 0, .slice none 0 0] 26)).heap.size = w.heap.size + 1 + 1 + 1 from by simp] at f3
  have fb := below_alloc (below_alloc (below_alloc (below_alloc (Below.refl w.heap.size w) (.cells #[.bool r.neg, .slice A r.num.length c, .slice B r.den.length d] 26)) (.cells #[.bool r'.neg, .slice A' r'.num.length c', .slice B' r'.den.length d'] 26)) (.cells #[.bool false, .slice none 0 0, .slice none 0 0] 26)) (.cells #[.bool r.neg, .slice A r.num.length c, .slice B r.den.length d, .bool r'.neg, .slice A' r'.num.length c', .slice B' r'.den.length d'] 26)
  generalize ((((w.alloc (.cells #[.bool r.neg, .slice A r.num.length c, .slice B r.den.length d] 26)).alloc (.cells #[.bool r'.neg, .slice A' r'.num.length c', .slice B' r'.den.length d'] 26)).alloc (.cells #[.bool false, .slice none 0 0, .slice none 0 0] 26)).alloc (.cells #[.bool r.neg, .slice A r.num.length c, .slice B r.den.length d, .bool r'.neg, .slice A' r'.num.length c', .slice B' r'.den.length d'] 26)) = W at f0 f1 f2 f3 fb ⊢
  obtain ⟨x0, x1, x2⟩ := box3 f0
  have HF0 := Aside0.mk f0
  have HF1 := Aside0.mk f1
  have HF2 := Aside0.mk f2
  have HF4 := Aside0.mk f3
  have HF3 := Aside0.mk fb
  clear f0 f1 f2 f3 fb x0 x1 x2
  refine (ok2_calls (w.heap.size + 1 + 1 + 1) r r' _ _ _ _ _ _ false _ HF4.out (ratK.K_below HF3.out HA.out) (ratK.K_below HF3.out HB.out) HG.out HG'.out HE.out).mono ?_
  rintro e w1 ⟨rfl, hb⟩
  have HB1 := Aside0.mk (HF3.out.trans (hb.mono HF3.out.size))
  have HX1 := Aside0.mk (HF0.out.below hb HF0.out.lt)
  have HY1 := Aside0.mk (HF1.out.below hb HF1.out.lt)
  have HR1 := Aside0.mk (HF2.out.below hb HF2.out.lt)
  have hlt := HF2.out.lt
  have hsz := hb.size
  obtain ⟨x0, x1, x2⟩ := box3 HX1.out
  obtain ⟨y0, y1, y2⟩ := box3 HY1.out
  clear hb HF0 HF1 HF2 HF4
  go_wp2_with fail
  refine (zero_calls _).mono ?_
  rintro e w2 ⟨A3, c3, B3, d3, rfl, hM, hb⟩
  have HM := Aside0.mk (Kd.M_mono _ (ok' := fun k => w1.heap.size ≤ k) (fun k hk => hk.2.1) (ratK.M_bound hM))
  have HB3 := Aside0.mk (HB1.out.trans (hb.mono HB1.out.size))
  have HRC := Aside0.mk (HR1.out.below hb HR1.out.lt)
  obtain ⟨⟨z0, z1, z2⟩, q0, q1, q2⟩ := bfacts HRC.out
  clear hb hM x0 x1 x2 y0 y1 y2
  go_wp2
  refine bodyPost_ret (ret_ratb Try.results17 _ _ (w.heap.size + 1 + 1) _ _ _ _ rfl rfl (store3 HRC.out)) rfl ?_
  exact ⟨_, _, _, _, rfl, Kd.M_mono _ (fun _ _ => trivial) (far3 (ratK.M_lower HB1.out.size HM.out) (fun k hk => by omega)), below3 HB3.out (by omega)⟩
set_option maxHeartbeats 2000000 in
set_option maxRecDepth 100000 in
theorem RatDiv_zero (r r' : Rt) (A c B d A' c' B' d') (w : World) (ha : ratK.K w r [.bool r.neg, .slice A r.num.length c, .slice B r.den.length d]) (hb : ratK.K w r' [.bool r'.neg, .slice A' r'.num.length c', .slice B' r'.den.length d']) (hg : RtGood r) (hg' : RtGood r') (he : (okR r && okR r') = true) (h0 : r'.num.length = 0) :
    Calls Try.prog 17 #[.agg #[.bool r.neg, .slice A r.num.length c, .slice B r.den.length d], .agg #[.bool r'.neg, .slice A' r'.num.length c', .slice B' r'.den.length d']] w (RatBPost w 0 false) := by
  have HSG := Aside0.mk (show signI r'.neg r'.num.length = 0 by unfold signI; rw [if_pos h0])
  clear h0
  have hu := Try.underlying26
  have HA := Aside0.mk ha
  have HB := Aside0.mk hb
  have HG := Aside0.mk hg
  have HG' := Aside0.mk hg'
  have HE := Aside0.mk he
  have hzz := he
  clear ha hb hg hg' he hzz
  go_enter Try.func17, Try.ntmps17
  go_wp2_with fail
  have f0 := (((Blk.new w 26 #[.bool r.neg, .slice A r.num.length c, .slice B r.den.length d]).alloc (.cells #[.bool r'.neg, .slice A' r'.num.length c', .slice B' r'.den.length d'] 26)).alloc (.cells #[.bool false, .slice none 0 0, .slice none 0 0] 26)).alloc (.cells #[.bool r.neg, .slice A r.num.length c, .slice B r.den.length d, .bool r'.neg, .slice A' r'.num.length c', .slice B' r'.den.length d'] 26)
  have f1 := ((Blk.new (w.alloc (.cells #[.bool r.neg, .slice A r.num.length c, .slice B r.den.length d] 26)) 26 #[.bool r'.neg, .slice A' r'.num.length c', .slice B' r'.den.length d']).alloc (.cells #[.bool false, .slice none 0 0, .slice none 0 0] 26)).alloc (.cells #[.bool r.neg, .slice A r.num.length c, .slice B r.den.length d, .bool r'.neg, .slice A' r'.num.length c', .slice B' r'.den.length d'] 26)
  rw [show (w.alloc (.cells #[.bool r.neg, .slice A r.num.length c, .slice B r.den.length d] 26)).heap.size = w.heap.size + 1 from by simp] at f1
  have f2 := (Blk.new ((w.alloc (.cells #[.bool r.neg, .slice A r.num.length c, .slice B r.den.length d] 26)).alloc (.cells #[.bool r'.neg, .slice A' r'.num.length c', .slice B' r'.den.length d'] 26)) 26 #[.bool false, .slice none 0 0, .slice none 0 0]).alloc (.cells #[.bool r.neg, .slice A r.num.length c, .slice B r.den.length d, .bool r'.neg, .slice A' r'.num.length c', .slice B' r'.den.length d'] 26)
  rw [show ((w.alloc (.cells #[.bool r.neg, .slice A r.num.length c, .slice B r.den.length d] 26)).alloc (.cells #[.bool r'.neg, .slice A' r'.num.length c', .slice B' r'.den.length d'] 26)).heap.size = w.heap.size + 1 + 1 from by simp] at f2
  have f3 := Blk.new (((w.alloc (.cells #[.bool r.neg, .slice A r.num.length c, .slice B r.den.length d] 26)).alloc (.cells #[.bool r'.neg, .slice A' r'.num.length c', .slice B' r'.den.length d'] 26)).alloc (.cells #[.bool false, .slice none 0 0, .slice none 0 0] 26)) 26 #[.bool r.neg, .slice A r.num.length c, .slice B r.den.length d, .bool r'.neg, .slice A' r'.num.length c', .slice B' r'.den.length d']
  rw [show (((w.alloc (.cells #[.bool r.neg, .slice A r.num.length c, .slice B r.den.length d] 26)).alloc (.cells #[.bool r'.neg, .slice A' r'.num.length c', .slice B' r'.den.length d'] 26)).alloc (.cells #[.bool false, .slice none 0 0, .slice none 0 0] 26)).heap.size = w.heap.size + 1 + 1 + 1 from by simp] at f3
  have fb := below_alloc (below_alloc (below_alloc (below_alloc (Below.refl w.heap.size w) (.cells #[.bool r.neg, .slice A r.num.length c, .slice B r.den.length d] 26)) (.cells #[.bool r'.neg, .slice A' r'.num.length c', .slice B' r'.den.length d'] 26)) (.cells #[.bool false, .slice none 0 0, .slice none 0 0] 26)) (.cells #[.bool r.neg, .slice A r.num.length c, .slice B r.den.length d, .bool r'.neg, .slice A' r'.num.length c', .slice B' r'.den.length d'] 26)
  generalize ((((w.alloc (.cells #[.bool r.neg, .slice A r.num.length c, .slice B r.den.length d] 26)).alloc (.cells #[.bool r'.neg, .slice A' r'.num.length c', .slice B' r'.den.length d'] 26)).alloc (.cells #[.bool false, .slice none 0 0, .slice none 0 0] 26)).alloc (.cells #[.bool r.neg, .slice A r.num.length c, .slice B r.den.length d, .bool r'.neg, .slice A' r'.num.length c', .slice B' r'.den.length d'] 26)) = W at f0 f1 f2 f3 fb ⊢
  obtain ⟨x0, x1, x2⟩ := box3 f0
  have HF0 := Aside0.mk f0
  have HF1 := Aside0.mk f1
  have HF2 := Aside0.mk f2
  have HF4 := Aside0.mk f3
  have HF3 := Aside0.mk fb
  clear f0 f1 f2 f3 fb x0 x1 x2
  refine (ok2_calls (w.heap.size + 1 + 1 + 1) r r' _ _ _ _ _ _ true _ HF4.out (ratK.K_below HF3.out HA.out) (ratK.K_below HF3.out HB.out) HG.out HG'.out HE.out).mono ?_
  rintro e w1 ⟨rfl, hb⟩
  have HB1 := Aside0.mk (HF3.out.trans (hb.mono HF3.out.size))
  have HX1 := Aside0.mk (HF0.out.below hb HF0.out.lt)
  have HY1 := Aside0.mk (HF1.out.below hb HF1.out.lt)
  have HR1 := Aside0.mk (HF2.out.below hb HF2.out.lt)
  obtain ⟨x0, x1, x2⟩ := box3 HX1.out
  obtain ⟨y0, y1, y2⟩ := box3 HY1.out
  clear hb HF0 HF1 HF2 HF4
  go_wp2_with fail
  clear x0 x1 x2 y0 y1 y2
  refine (sign_calls _ _ _ _ _ _ _ 0 _ HSG.out).mono ?_
  rintro e ws ⟨rfl, hb⟩
  have HBS := Aside0.mk (HB1.out.trans (hb.mono HB1.out.size))
  have HXS := Aside0.mk (HX1.out.below hb HX1.out.lt)
  have HYS := Aside0.mk (HY1.out.below hb HY1.out.lt)
  have HRS := Aside0.mk (HR1.out.below hb HR1.out.lt)
  have hlt := HR1.out.lt
  have hsz := HBS.out.size
  have hsw := hb.size
  obtain ⟨x0, x1, x2⟩ := box3 HXS.out
  obtain ⟨y0, y1, y2⟩ := box3 HYS.out
  clear hb HX1 HY1 HR1 HB1
  go_wp2_with fail
  refine (zero_calls _).mono ?_
  rintro e w2 ⟨A3, c3, B3, d3, rfl, hM, hb⟩
  have HM := Aside0.mk (Kd.M_mono _ (ok' := fun k => ws.heap.size ≤ k) (fun k hk => hk.2.1) (ratK.M_bound hM))
  have HB3 := Aside0.mk (HBS.out.trans (hb.mono HBS.out.size))
  have HRC := Aside0.mk (HRS.out.below hb HRS.out.lt)
  obtain ⟨⟨z0, z1, z2⟩, q0, q1, q2⟩ := bfacts HRC.out
  clear hb hM x0 x1 x2 y0 y1 y2
  go_wp2
  refine bodyPost_ret (ret_ratb Try.results17 _ _ (w.heap.size + 1 + 1) _ _ _ _ rfl rfl (store3 HRC.out)) rfl ?_
  exact ⟨_, _, _, _, rfl, Kd.M_mono _ (fun _ _ => trivial) (far3 (ratK.M_lower HBS.out.size HM.out) (fun k hk => by omega)), below3 HB3.out (by omega)⟩
set_option maxHeartbeats 2000000 in
set_option maxRecDepth 100000 in
theorem RatDiv_good (qa qb : Rat) (r r' : Rt) (hqa : r = repr qa) (hqb : r' = repr qb) (A c B d A' c' B' d') (w : World) (ha : ratK.K w r [.bool r.neg, .slice A r.num.length c, .slice B r.den.length d]) (hb : ratK.K w r' [.bool r'.neg, .slice A' r'.num.length c', .slice B' r'.den.length d']) (hg : RtGood r) (hg' : RtGood r') (hna : szR qa ≤ 274877906944) (hnb : szR qb ≤ 274877906944) (h0 : qb ≠ 0) :
    Calls Try.prog 17 #[.agg #[.bool r.neg, .slice A r.num.length c, .slice B r.den.length d], .agg #[.bool r'.neg, .slice A' r'.num.length c', .slice B' r'.den.length d']] w (RatBPost w (qa / qb) true) := by
  have he : (okR r && okR r') = true := by rw [hqa, hqb, okR_repr, okR_repr]; rfl
  have HQA := Aside0.mk hqa
  have HQB := Aside0.mk hqb
  obtain ⟨z, hz⟩ : ∃ z, signI r'.neg r'.num.length = z := ⟨_, rfl⟩
  have hz0 : (z == 0) = false := by
    have hn : r'.num.length ≠ 0 := by rw [hqb]; exact fun h => h0 (repr_num_len.1 h)
    rw [← hz]; unfold signI; rw [if_neg hn]; cases r'.neg <;> rfl
  have HSG := Aside0.mk hz
  clear hz hqa hqb
  have hu := Try.underlying26
  have HA := Aside0.mk ha
  have HB := Aside0.mk hb
  have HG := Aside0.mk hg
  have HG' := Aside0.mk hg'
  have HE := Aside0.mk he
  have hzz := he
  clear ha hb hg hg' he hzz
  go_enter Try.func17, Try.ntmps17
  go_wp2_with fail
  have f0 := (((Blk.new w 26 #[.bool r.neg, .slice A r.num.length c, .slice B r.den.length d]).alloc (.cells #[.bool r'.neg, .slice A' r'.num.length c', .slice B' r'.den.length d'] 26)).alloc (.cells #[.bool false, .slice none 0 0, .slice none 0 0] 26)).alloc (.cells #[.bool r.neg, .slice A r.num.length c, .slice B r.den.length d, .bool r'.neg, .slice A' r'.num.length c', .slice B' r'.den.length d'] 26)
  have f1 := ((Blk.new (w.alloc (.cells #[.bool r.neg, .slice A r.num.length c, .slice B r.den.length d] 26)) 26 #[.bool r'.neg, .slice A' r'.num.length c', .slice B' r'.den.length d']).alloc (.cells #[.bool false, .slice none 0 0, .slice none 0 0] 26)).alloc (.cells #[.bool r.neg, .slice A r.num.length c, .slice B r.den.length d, .bool r'.neg, .slice A' r'.num.length c', .slice B' r'.den.length d'] 26)
  rw [show (w.alloc (.cells #[.bool r.neg, .slice A r.num.length c, .slice B r.den.length d] 26)).heap.size = w.heap.size + 1 from by simp] at f1
  have f2 := (Blk.new ((w.alloc (.cells #[.bool r.neg, .slice A r.num.length c, .slice B r.den.length d] 26)).alloc (.cells #[.bool r'.neg, .slice A' r'.num.length c', .slice B' r'.den.length d'] 26)) 26 #[.bool false, .slice none 0 0, .slice none 0 0]).alloc (.cells #[.bool r.neg, .slice A r.num.length c, .slice B r.den.length d, .bool r'.neg, .slice A' r'.num.length c', .slice B' r'.den.length d'] 26)
  rw [show ((w.alloc (.cells #[.bool r.neg, .slice A r.num.length c, .slice B r.den.length d] 26)).alloc (.cells #[.bool r'.neg, .slice A' r'.num.length c', .slice B' r'.den.length d'] 26)).heap.size = w.heap.size + 1 + 1 from by simp] at f2
  have f3 := Blk.new (((w.alloc (.cells #[.bool r.neg, .slice A r.num.length c, .slice B r.den.length d] 26)).alloc (.cells #[.bool r'.neg, .slice A' r'.num.length c', .slice B' r'.den.length d'] 26)).alloc (.cells #[.bool false, .slice none 0 0, .slice none 0 0] 26)) 26 #[.bool r.neg, .slice A r.num.length c, .slice B r.den.length d, .bool r'.neg, .slice A' r'.num.length c', .slice B' r'.den.length d']
  rw [show (((w.alloc (.cells #[.bool r.neg, .slice A r.num.length c, .slice B r.den.length d] 26)).alloc (.cells #[.bool r'.neg, .slice A' r'.num.length c', .slice B' r'.den.length d'] 26)).alloc (.cells #[.bool false, .slice none 0 0, .slice none 0 0] 26)).heap.size = w.heap.size + 1 + 1 + 1 from by simp] at f3
  have fb := below_alloc (below_alloc (below_alloc (below_alloc (Below.refl w.heap.size w) (.cells #[.bool r.neg, .slice A r.num.length c, .slice B r.den.length d] 26)) (.cells #[.bool r'.neg, .slice A' r'.num.length c', .slice B' r'.den.length d'] 26)) (.cells #[.bool false, .slice none 0 0, .slice none 0 0] 26)) (.cells #[.bool r.neg, .slice A r.num.length c, .slice B r.den.length d, .bool r'.neg, .slice A' r'.num.length c', .slice B' r'.den.length d'] 26)
  generalize ((((w.alloc (.cells #[.bool r.neg, .slice A r.num.length c, .slice B r.den.length d] 26)).alloc (.cells #[.bool r'.neg, .slice A' r'.num.length c', .slice B' r'.den.length d'] 26)).alloc (.cells #[.bool false, .slice none 0 0, .slice none 0 0] 26)).alloc (.cells #[.bool r.neg, .slice A r.num.length c, .slice B r.den.length d, .bool r'.neg, .slice A' r'.num.length c', .slice B' r'.den.length d'] 26)) = W at f0 f1 f2 f3 fb ⊢
  obtain ⟨x0, x1, x2⟩ := box3 f0
  have HF0 := Aside0.mk f0
  have HF1 := Aside0.mk f1
  have HF2 := Aside0.mk f2
  have HF4 := Aside0.mk f3
  have HF3 := Aside0.mk fb
  clear f0 f1 f2 f3 fb x0 x1 x2
  refine (ok2_calls (w.heap.size + 1 + 1 + 1) r r' _ _ _ _ _ _ true _ HF4.out (ratK.K_below HF3.out HA.out) (ratK.K_below HF3.out HB.out) HG.out HG'.out HE.out).mono ?_
  rintro e w1 ⟨rfl, hb⟩
  have HB1 := Aside0.mk (HF3.out.trans (hb.mono HF3.out.size))
  have HX1 := Aside0.mk (HF0.out.below hb HF0.out.lt)
  have HY1 := Aside0.mk (HF1.out.below hb HF1.out.lt)
  have HR1 := Aside0.mk (HF2.out.below hb HF2.out.lt)
  obtain ⟨x0, x1, x2⟩ := box3 HX1.out
  obtain ⟨y0, y1, y2⟩ := box3 HY1.out
  clear hb HF0 HF1 HF2 HF4
  go_wp2_with fail
  clear x0 x1 x2 y0 y1 y2
  refine (sign_calls _ _ _ _ _ _ _ z _ HSG.out).mono ?_
  rintro e ws ⟨rfl, hb⟩
  have HBS := Aside0.mk (HB1.out.trans (hb.mono HB1.out.size))
  have HXS := Aside0.mk (HX1.out.below hb HX1.out.lt)
  have HYS := Aside0.mk (HY1.out.below hb HY1.out.lt)
  have HRS := Aside0.mk (HR1.out.below hb HR1.out.lt)
  have hlt := HR1.out.lt
  have hsz := HBS.out.size
  have hsw := hb.size
  obtain ⟨x0, x1, x2⟩ := box3 HXS.out
  obtain ⟨y0, y1, y2⟩ := box3 HYS.out
  clear hb HX1 HY1 HR1 HB1
  go_wp2_with fail
  rw [HQA.out, HQB.out]
  refine (quot_calls qa qb _ _ _ _ _ _ _ _ _ (ratK.K_below HBS.out (by have := HA.out; rw [HQA.out] at this; exact this)) (ratK.K_below HBS.out (by have := HB.out; rw [HQB.out] at this; exact this)) hna hnb h0).mono ?_
  rintro e w2 ⟨A3, c3, B3, d3, rfl, hM, hb⟩
  have HM := Aside0.mk (Kd.M_mono _ (ok' := fun k => ws.heap.size ≤ k) (fun k hk => hk.2.1) (ratK.M_bound hM))
  have HB3 := Aside0.mk (HBS.out.trans (hb.mono HBS.out.size))
  have HRC := Aside0.mk (HRS.out.below hb HRS.out.lt)
  obtain ⟨⟨z0, z1, z2⟩, q0, q1, q2⟩ := bfacts HRC.out
  clear hb hM x0 x1 x2 y0 y1 y2
  go_wp2
  refine bodyPost_ret (ret_ratb Try.results17 _ _ (w.heap.size + 1 + 1) _ _ _ _ rfl rfl (store3 HRC.out)) rfl ?_
  exact ⟨_, _, _, _, rfl, Kd.M_mono _ (fun _ _ => trivial) (far3 (ratK.M_lower HBS.out.size HM.out) (fun k hk => by omega)), below3 HB3.out (by omega)⟩
/-- What RatDiv hands back. -/
def DivIs (r r' : Rt) (q : Rat) (b : Bool) : Prop := ((okR r && okR r') = false ∧ q = 0 ∧ b = false) ∨ ∃ qa qb, r = repr qa ∧ r' = repr qb ∧ ((qb = 0 ∧ q = 0 ∧ b = false) ∨ (qb ≠ 0 ∧ q = qa / qb ∧ b = true))
theorem RatDiv_K {s s' : Bool} {A A' B B' : Option Addr} {n c m d n' c' m' d' : Nat} (r r' : Rt) (q : Rat) (b : Bool) (w : World) (ha : ratK.K w r [.bool s, .slice A n c, .slice B m d]) (hb : ratK.K w r' [.bool s', .slice A' n' c', .slice B' m' d']) (hl : LimbsR r) (hl' : LimbsR r') (hs : r.num.length + r.den.length + (r'.num.length + r'.den.length) ≤ 1048576) (hq : DivIs r r' q b) :
    Calls Try.prog 17 #[.agg #[.bool s, .slice A n c, .slice B m d], .agg #[.bool s', .slice A' n' c', .slice B' m' d']] w (RatBPost w q b) := by
  obtain ⟨A1, c1, B1, d1, e, _⟩ := ratK_form ha
  obtain ⟨A2, c2, B2, d2, e', _⟩ := ratK_form hb
  simp only [List.cons.injEq, Value.slice.injEq, Value.bool.injEq, and_true] at e e'
  obtain ⟨rfl, ⟨rfl, rfl, rfl⟩, rfl, rfl, rfl⟩ := e
  obtain ⟨rfl, ⟨rfl, rfl, rfl⟩, rfl, rfl, rfl⟩ := e'
  have g : RtGood r := ⟨hl.1, hl.2, by omega, by omega⟩
  have g' : RtGood r' := ⟨hl'.1, hl'.2, by omega, by omega⟩
  rcases hq with ⟨h, rfl, rfl⟩ | ⟨qa, qb, h1, h2, ⟨h0, rfl, rfl⟩ | ⟨h0, rfl, rfl⟩⟩
  · exact RatDiv_bad r r' _ _ _ _ _ _ _ _ w ha hb g g' h
  · exact RatDiv_zero r r' _ _ _ _ _ _ _ _ w ha hb g g' (by rw [h1, h2, okR_repr, okR_repr]; rfl) (by rw [h2, h0]; exact repr_num_len.2 rfl)
  · exact RatDiv_good qa qb r r' h1 h2 _ _ _ _ _ _ _ _ w ha hb g g' (by unfold szR; rw [← h1]; omega) (by unfold szR; rw [← h2]; omega) h0
end Go.Proofs.Ytlpckbleokoiiaa.Hand
