/- RatAdd of the program. Conditions: both rationals can be read, their elements are limbs, and they have at most 2^20 limbs together. -/
import Derived.Test.YtlpckbleokoiiaaZHradd
import Derived.Test.YtlpckbleokoiiaaZHscmp
import Derived.Test.YtlpckbleokoiiaaZHlrcut
set_option linter.unusedVariables false
set_option linter.unusedSimpArgs false
namespace Go.Proofs.Ytlpckbleokoiiaa.Hand
open Go.RowKit Go.Proofs.YtlpckbleokoiiaaW.PrintWords Go.Proofs.YtlpckbleokoiiaaW.PrintLast Go.Proofs.YtlpckbleokoiiaaW.PrintMore
set_option maxHeartbeats 1000000 in
set_option maxRecDepth 100000 in
theorem RatAdd_bad (r r' : Rt) (A c B d A' c' B' d') (w : World) (ha : ratK.K w r [.bool r.neg, .slice A r.num.length c, .slice B r.den.length d]) (hb : ratK.K w r' [.bool r'.neg, .slice A' r'.num.length c', .slice B' r'.den.length d']) (hg : RtGood r) (hg' : RtGood r') (he : (okR r && okR r') = false) :
    Calls Try.prog 10 #[.agg #[.bool r.neg, .slice A r.num.length c, .slice B r.den.length d], .agg #[.bool r'.neg, .slice A' r'.num.length c', .slice B' r'.den.length d']] w (RatPost w 0) := by
  have hu := Try.underlying26
  have HA := Aside0.mk ha
  have HB := Aside0.mk hb
  have HG := Aside0.mk hg
  have HG' := Aside0.mk hg'
  have HE := Aside0.mk he
  clear ha hb hg hg' he
  go_enter Try.func10, Try.ntmps10
  go_wp2_with fail
  have f0 := (((Blk.new w 26 #[.bool r.neg, .slice A r.num.length c, .slice B r.den.length d]).alloc (.cells #[.bool r'.neg, .slice A' r'.num.length c', .slice B' r'.den.length d'] 26)).alloc (.cells #[.bool false, .slice none 0 0, .slice none 0 0] 26)).alloc (.cells #[.bool r.neg, .slice A r.num.length c, .slice B r.den.length d, .bool r'.neg, .slice A' r'.num.length c', .slice B' r'.den.length d'] 26)
  have f1 := ((Blk.new (w.alloc (.cells #[.bool r.neg, .slice A r.num.length c, .slice B r.den.length d] 26)) 26 #[.bool r'.neg, .slice A' r'.num.length c', .slice B' r'.den.length d']).alloc (.cells #[.bool false, .slice none 0 0, .slice none 0 0] 26)).alloc (.cells #[.bool r.neg, .slice A r.num.length c, .slice B r.den.length d, .bool r'.neg, .slice A' r'.num.length c', .slice B' r'.den.length d'] 26)
  rw [show (w.alloc (.cells #[.bool r.neg, .slice A r.num.length c, .slice B r.den.length d] 26)).heap.size = w.heap.size + 1 from by simp] at f1
  have f2 := (Blk.new ((w.alloc (.cells #[.bool r.neg, .slice A r.num.length c, .slice B r.den.length d] 26)).alloc (.cells #[.bool r'.neg, .slice A' r'.num.length c', .slice B' r'.den.length d'] 26)) 26 #[.bool false, .slice none 0 0, .slice none 0 0]).alloc (.cells #[.bool r.neg, .slice A r.num.length c, .slice B r.den.length d, .bool r'.neg, .slice A' r'.num.length c', .slice B' r'.den.length d'] 26)
  rw [show ((w.alloc (.cells #[.bool r.neg, .slice A r.num.length c, .slice B r.den.length d] 26)).alloc (.cells #[.bool r'.neg, .slice A' r'.num.length c', .slice B' r'.den.length d'] 26)).heap.size = w.heap.size + 1 + 1 from by simp] at f2
  have f3 := Blk.new (((w.alloc (.cells #[.bool r.neg, .slice A r.num.length c, .slice B r.den.length d] 26)).alloc (.cells #[.bool r'.neg, .slice A' r'.num.length c', .slice B' r'.den.length d'] 26)).alloc (.cells #[.bool false, .slice none 0 0, .slice none 0 0] 26)) 26 #[.bool r.neg, .slice A r.num.length c, .slice B r.den.length d, .bool r'.neg, .slice A' r'.num.length c', .slice B' r'.den.length d']
  rw [show (((w.alloc (.cells #[.bool r.neg, .slice A r.num.length c, .slice B r.den.length d] 26)).alloc (.cells #[.bool r'.neg, .slice A' r'.num.length c', .slice B' r'.den.length d'] 26)).alloc (.cells #[.bool false, .slice none 0 0, .slice none 0 0] 26)).heap.size = w.heap.size + 1 + 1 + 1 from by simp] at f3
  have fb := below_alloc (below_alloc (below_alloc (below_alloc (Below.refl w.heap.size w) (.cells #[.bool r.neg, .slice A r.num.length c, .slice B r.den.length d] 26)) (.cells #[.bool r'.neg, .slice A' r'.num.length c', .slice B' r'.den.length d'] 26)) (.cells #[.bool false, .slice none 0 0, .slice none 0 0] 26)) (.cells #[.bool r.neg, .slice A r.num.length c, .slice B r.den.length d, .bool r'.neg, .slice A' r'.num.length c', .slice B' r'.den.length d'] 26)
  generalize ((((w.alloc (.cells #[.bool r.neg, .slice A r.num.length c, .slice B r.den.length d] 26)).alloc (.cells #[.bool r'.neg, .slice A' r'.num.length c', .slice B' r'.den.length d'] 26)).alloc (.cells #[.bool false, .slice none 0 0, .slice none 0 0] 26)).alloc (.cells #[.bool r.neg, .slice A r.num.length c, .slice B r.den.length d, .bool r'.neg, .slice A' r'.num.length c', .slice B' r'.den.length d'] 26)) = W at f0 f1 f2 f3 fb ⊢
  obtain ⟨x0, x1, x2⟩ := box3 f0
  have HF0 := Aside0.mk f0
  have HF1 := Aside0.mk f1
  have HF2 := Aside0.mk f2
  have HF4 := Aside0.mk f3
  have HF3 := Aside0.mk fb
  clear f0 f1 f2 f3 fb x0 x1 x2
  refine (ok2_calls (w.heap.size + 1 + 1 + 1) r r' _ _ _ _ _ _ false _ HF4.out (ratK.K_below HF3.out HA.out) (ratK.K_below HF3.out HB.out) HG.out HG'.out HE.out).mono ?_
  rintro e w1 ⟨rfl, hb⟩
  have HB1 := Aside0.mk (HF3.out.trans (hb.mono HF3.out.size))
  have HX1 := Aside0.mk (HF0.out.below hb HF0.out.lt)
  have HY1 := Aside0.mk (HF1.out.below hb HF1.out.lt)
  have HR1 := Aside0.mk (HF2.out.below hb HF2.out.lt)
  have hlt := HF2.out.lt
  have hsz := hb.size
  obtain ⟨x0, x1, x2⟩ := box3 HX1.out
  obtain ⟨y0, y1, y2⟩ := box3 HY1.out
  clear hb HF0 HF1 HF2 HF4
  go_wp2_with fail
  refine (zero_calls _).mono ?_
  rintro e w2 ⟨A3, c3, B3, d3, rfl, hM, hb⟩
  have HM := Aside0.mk (Kd.M_mono _ (ok' := fun k => w1.heap.size ≤ k) (fun k hk => hk.2.1) (ratK.M_bound hM))
  have HB3 := Aside0.mk (HB1.out.trans (hb.mono HB1.out.size))
  have HRC := Aside0.mk (HR1.out.below hb HR1.out.lt)
  obtain ⟨⟨z0, z1, z2⟩, q0, q1, q2⟩ := bfacts HRC.out
  clear hb hM x0 x1 x2 y0 y1 y2
  go_wp2
  refine bodyPost_ret (ret_rat Try.results10 _ _ (w.heap.size + 1 + 1) _ _ _ rfl (store3 HRC.out)) rfl ?_
  exact ⟨_, _, _, _, rfl, Kd.M_mono _ (fun _ _ => trivial) (far3 (ratK.M_lower HB1.out.size HM.out) (fun k hk => by omega)), below3 HB3.out (by omega)⟩
set_option maxHeartbeats 1000000 in
set_option maxRecDepth 100000 in
theorem RatAdd_good (qa qb : Rat) (r r' : Rt) (hqa : r = repr qa) (hqb : r' = repr qb) (A c B d A' c' B' d') (w : World) (ha : ratK.K w r [.bool r.neg, .slice A r.num.length c, .slice B r.den.length d]) (hb : ratK.K w r' [.bool r'.neg, .slice A' r'.num.length c', .slice B' r'.den.length d']) (hg : RtGood r) (hg' : RtGood r') (hna : szR qa ≤ 137438953472) (hnb : szR qb ≤ 137438953472) :
    Calls Try.prog 10 #[.agg #[.bool r.neg, .slice A r.num.length c, .slice B r.den.length d], .agg #[.bool r'.neg, .slice A' r'.num.length c', .slice B' r'.den.length d']] w (RatPost w (qa + qb)) := by
  have he : (okR r && okR r') = true := by rw [hqa, hqb, okR_repr, okR_repr]; rfl
  have HQA := Aside0.mk hqa
  have HQB := Aside0.mk hqb
  clear hqa hqb
  have hu := Try.underlying26
  have HA := Aside0.mk ha
  have HB := Aside0.mk hb
  have HG := Aside0.mk hg
  have HG' := Aside0.mk hg'
  have HE := Aside0.mk he
  clear ha hb hg hg' he
  go_enter Try.func10, Try.ntmps10
  go_wp2_with fail
  have f0 := (((Blk.new w 26 #[.bool r.neg, .slice A r.num.length c, .slice B r.den.length d]).alloc (.cells #[.bool r'.neg, .slice A' r'.num.length c', .slice B' r'.den.length d'] 26)).alloc (.cells #[.bool false, .slice none 0 0, .slice none 0 0] 26)).alloc (.cells #[.bool r.neg, .slice A r.num.length c, .slice B r.den.length d, .bool r'.neg, .slice A' r'.num.length c', .slice B' r'.den.length d'] 26)
  have f1 := ((Blk.new (w.alloc (.cells #[.bool r.neg, .slice A r.num.length c, .slice B r.den.length d] 26)) 26 #[.bool r'.neg, .slice A' r'.num.length c', .slice B' r'.den.length d']).alloc (.cells #[.bool false, .slice none 0 0, .slice none 0 0] 26)).alloc (.cells #[.bool r.neg, .slice A r.num.length c, .slice B r.den.length d, .bool r'.neg, .slice A' r'.num.length c', .slice B' r'.den.length d'] 26)
  rw [show (w.alloc (.cells #[.bool r.neg, .slice A r.num.length c, .slice B r.den.length d] 26)).heap.size = w.heap.size + 1 from by simp] at f1
  have f2 := (Blk.new ((w.alloc (.cells #[.bool r.neg, .slice A r.num.length c, .slice B r.den.length d] 26)).alloc (.cells #[.bool r'.neg, .slice A' r'.num.length c', .slice B' r'.den.length d'] 26)) 26 #[.bool false, .slice none 0 0, .slice none 0 0]).alloc (.cells #[.bool r.neg, .slice A r.num.length c, .slice B r.den.length d, .bool r'.neg, .slice A' r'.num.length c', .slice B' r'.den.length d'] 26)
  rw [show ((w.alloc (.cells #[.bool r.neg, .slice A r.num.length c, .slice B r.den.length d] 26)).alloc (.cells #[.bool r'.neg, .slice A' r'.num.length c', .slice B' r'.den.length d'] 26)).heap.size = w.heap.size + 1 + 1 from by simp] at f2
  have f3 := Blk.new (((w.alloc (.cells #[.bool r.neg, .slice A r.num.length c, .slice B r.den.length d] 26)).alloc (.cells #[.bool r'.neg, .slice A' r'.num.length c', .slice B' r'.den.length d'] 26)).alloc (.cells #[.bool false, .slice none 0 0, .slice none 0 0] 26)) 26 #[.bool r.neg, .slice A r.num.length c, .slice B r.den.length d, .bool r'.neg, .slice A' r'.num.length c', .slice B' r'.den.length d']
  rw [show (((w.alloc (.cells #[.bool r.neg, .slice A r.num.length c, .slice B r.den.length d] 26)).alloc (.cells #[.bool r'.neg, .slice A' r'.num.length c', .slice B' r'.den.length d'] 26)).alloc (.cells #[.bool false, .slice none 0 0, .slice none 0 0] 26)).heap.size = w.heap.size + 1 + 1 + 1 from by simp] at f3
  have fb := below_alloc (below_alloc (below_alloc (below_alloc (Below.refl w.heap.size w) (.cells #[.bool r.neg, .slice A r.num.length c, .slice B r.den.length d] 26)) (.cells #[.bool r'.neg, .slice A' r'.num.length c', .slice B' r'.den.length d'] 26)) (.cells #[.bool false, .slice none 0 0, .slice none 0 0] 26)) (.cells #[.bool r.neg, .slice A r.num.length c, .slice B r.den.length d, .bool r'.neg, .slice A' r'.num.length c', .slice B' r'.den.length d'] 26)
  generalize ((((w.alloc (.cells #[.bool r.neg, .slice A r.num.length c, .slice B r.den.length d] 26)).alloc (.cells #[.bool r'.neg, .slice A' r'.num.length c', .slice B' r'.den.length d'] 26)).alloc (.cells #[.bool false, .slice none 0 0, .slice none 0 0] 26)).alloc (.cells #[.bool r.neg, .slice A r.num.length c, .slice B r.den.length d, .bool r'.neg, .slice A' r'.num.length c', .slice B' r'.den.length d'] 26)) = W at f0 f1 f2 f3 fb ⊢
  obtain ⟨x0, x1, x2⟩ := box3 f0
  have HF0 := Aside0.mk f0
  have HF1 := Aside0.mk f1
  have HF2 := Aside0.mk f2
  have HF4 := Aside0.mk f3
  have HF3 := Aside0.mk fb
  clear f0 f1 f2 f3 fb x0 x1 x2
  refine (ok2_calls (w.heap.size + 1 + 1 + 1) r r' _ _ _ _ _ _ true _ HF4.out (ratK.K_below HF3.out HA.out) (ratK.K_below HF3.out HB.out) HG.out HG'.out HE.out).mono ?_
  rintro e w1 ⟨rfl, hb⟩
  have HB1 := Aside0.mk (HF3.out.trans (hb.mono HF3.out.size))
  have HX1 := Aside0.mk (HF0.out.below hb HF0.out.lt)
  have HY1 := Aside0.mk (HF1.out.below hb HF1.out.lt)
  have HR1 := Aside0.mk (HF2.out.below hb HF2.out.lt)
  have hlt := HF2.out.lt
  have hsz := hb.size
  obtain ⟨x0, x1, x2⟩ := box3 HX1.out
  obtain ⟨y0, y1, y2⟩ := box3 HY1.out
  clear hb HF0 HF1 HF2 HF4
  go_wp2_with fail
  rw [HQA.out, HQB.out]
  refine (add_calls qa qb _ _ _ _ _ _ _ _ _ (ratK.K_below HB1.out (by have := HA.out; rw [HQA.out] at this; exact this)) (ratK.K_below HB1.out (by have := HB.out; rw [HQB.out] at this; exact this)) hna hnb).mono ?_
  rintro e w2 ⟨A3, c3, B3, d3, rfl, hM, hb⟩
  have HM := Aside0.mk (Kd.M_mono _ (ok' := fun k => w1.heap.size ≤ k) (fun k hk => hk.2.1) (ratK.M_bound hM))
  have HB3 := Aside0.mk (HB1.out.trans (hb.mono HB1.out.size))
  have HRC := Aside0.mk (HR1.out.below hb HR1.out.lt)
  obtain ⟨⟨z0, z1, z2⟩, q0, q1, q2⟩ := bfacts HRC.out
  clear hb hM x0 x1 x2 y0 y1 y2
  go_wp2
  refine bodyPost_ret (ret_rat Try.results10 _ _ (w.heap.size + 1 + 1) _ _ _ rfl (store3 HRC.out)) rfl ?_
  exact ⟨_, _, _, _, rfl, Kd.M_mono _ (fun _ _ => trivial) (far3 (ratK.M_lower HB1.out.size HM.out) (fun k hk => by omega)), below3 HB3.out (by omega)⟩
theorem RatAdd_K {s s' : Bool} {A A' B B' : Option Addr} {n c m d n' c' m' d' : Nat} (r r' : Rt) (q : Rat) (w : World) (ha : ratK.K w r [.bool s, .slice A n c, .slice B m d]) (hb : ratK.K w r' [.bool s', .slice A' n' c', .slice B' m' d']) (hl : LimbsR r) (hl' : LimbsR r') (hs : r.num.length + r.den.length + (r'.num.length + r'.den.length) ≤ 1048576) (hq : AddIs r r' q) :
    Calls Try.prog 10 #[.agg #[.bool s, .slice A n c, .slice B m d], .agg #[.bool s', .slice A' n' c', .slice B' m' d']] w (RatPost w q) := by
  obtain ⟨A1, c1, B1, d1, e, _⟩ := ratK_form ha
  obtain ⟨A2, c2, B2, d2, e', _⟩ := ratK_form hb
  simp only [List.cons.injEq, Value.slice.injEq, Value.bool.injEq, and_true] at e e'
  obtain ⟨rfl, ⟨rfl, rfl, rfl⟩, rfl, rfl, rfl⟩ := e
  obtain ⟨rfl, ⟨rfl, rfl, rfl⟩, rfl, rfl, rfl⟩ := e'
  have g : RtGood r := ⟨hl.1, hl.2, by omega, by omega⟩
  have g' : RtGood r' := ⟨hl'.1, hl'.2, by omega, by omega⟩
  rcases hq with ⟨h, rfl⟩ | ⟨qa, qb, h1, h2, rfl⟩
  · exact RatAdd_bad r r' _ _ _ _ _ _ _ _ w ha hb g g' h
  · exact RatAdd_good qa qb r r' h1 h2 _ _ _ _ _ _ _ _ w ha hb g g' (by unfold szR; rw [← h1]; omega) (by unfold szR; rw [← h2]; omega)
end Go.Proofs.Ytlpckbleokoiiaa.Hand
