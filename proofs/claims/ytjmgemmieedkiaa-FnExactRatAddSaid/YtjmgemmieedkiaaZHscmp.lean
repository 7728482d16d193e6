/- The document's l1Neg, l1Sub, l1Sign, l1Cmp, RatCmp and RatAdd. Conditions: the rationals can be read, their elements are limbs, and they have at most 2^37 limbs (RatCmp, RatAdd: 2^20 together). -/
import Derived.Test.YtjmgemmieedkiaaZHsadd
import Derived.Deep.RegionHeld3
set_option linter.unusedVariables false
set_option linter.unusedSimpArgs false
namespace Go.Proofs.Ytjmgemmieedkiaa.Hand
open Go.RowKit Go.Proofs.YtjmgemmieedkiaaW.PrintWords Go.Proofs.YtjmgemmieedkiaaW.PrintLast Go.Proofs.YtjmgemmieedkiaaW.PrintMore
/-- What RatAdd hands back. -/
def AddIs (r r' : Rt) (q : Rat) : Prop := ((okR r && okR r') = false ∧ q = 0) ∨ ∃ qa qb, r = repr qa ∧ r' = repr qb ∧ q = qa + qb
set_option maxHeartbeats 2000000 in
set_option maxRecDepth 100000 in
theorem sadd_bad1 (r r' : Rt) (A c B d A' c' B' d') (w : World) (ha : ratK.K w r [.bool r.neg, .slice A r.num.length c, .slice B r.den.length d]) (hb : ratK.K w r' [.bool r'.neg, .slice A' r'.num.length c', .slice B' r'.den.length d']) (hl : LimbsR r) (hl' : LimbsR r') (hs : r.num.length + r.den.length + (r'.num.length + r'.den.length) ≤ 1048576) (he : okR r = false) :
    Calls Try.prog 42 #[.agg #[.bool r.neg, .slice A r.num.length c, .slice B r.den.length d], .agg #[.bool r'.neg, .slice A' r'.num.length c', .slice B' r'.den.length d']] w (RatPost w (0)) := by
  have HE := Aside0.mk he
  clear he
  have hu := Try.underlying34
  have HA := Aside0.mk ha
  have HB := Aside0.mk hb
  have HLA := Aside0.mk hl
  have HLB := Aside0.mk hl'
  clear ha hb hl hl'
  go_enter Try.func42, Try.ntmps42
  go_wp2_with fail
  have f0 := ((Blk.new w 34 #[.bool r.neg, .slice A r.num.length c, .slice B r.den.length d]).alloc (.cells #[.bool r'.neg, .slice A' r'.num.length c', .slice B' r'.den.length d'] 34)).alloc (.cells #[.bool false, .slice none 0 0, .slice none 0 0] 34)
  have f1 := (Blk.new (w.alloc (.cells #[.bool r.neg, .slice A r.num.length c, .slice B r.den.length d] 34)) 34 #[.bool r'.neg, .slice A' r'.num.length c', .slice B' r'.den.length d']).alloc (.cells #[.bool false, .slice none 0 0, .slice none 0 0] 34)
  rw [show (w.alloc (.cells #[.bool r.neg, .slice A r.num.length c, .slice B r.den.length d] 34)).heap.size = w.heap.size + 1 from by simp] at f1
  have f2 := Blk.new ((w.alloc (.cells #[.bool r.neg, .slice A r.num.length c, .slice B r.den.length d] 34)).alloc (.cells #[.bool r'.neg, .slice A' r'.num.length c', .slice B' r'.den.length d'] 34)) 34 #[.bool false, .slice none 0 0, .slice none 0 0]
  rw [show ((w.alloc (.cells #[.bool r.neg, .slice A r.num.length c, .slice B r.den.length d] 34)).alloc (.cells #[.bool r'.neg, .slice A' r'.num.length c', .slice B' r'.den.length d'] 34)).heap.size = w.heap.size + 1 + 1 from by simp] at f2
  have fb := below_alloc (below_alloc (below_alloc (Below.refl w.heap.size w) (.cells #[.bool r.neg, .slice A r.num.length c, .slice B r.den.length d] 34)) (.cells #[.bool r'.neg, .slice A' r'.num.length c', .slice B' r'.den.length d'] 34)) (.cells #[.bool false, .slice none 0 0, .slice none 0 0] 34)
  generalize (((w.alloc (.cells #[.bool r.neg, .slice A r.num.length c, .slice B r.den.length d] 34)).alloc (.cells #[.bool r'.neg, .slice A' r'.num.length c', .slice B' r'.den.length d'] 34)).alloc (.cells #[.bool false, .slice none 0 0, .slice none 0 0] 34)) = W at f0 f1 f2 fb ⊢
  have HX0 := Aside0.mk f0
  have HY0 := Aside0.mk f1
  have HZ0 := Aside0.mk f2
  have HB0 := Aside0.mk fb
  clear f0 f1 f2 fb
  refine (spec_ok r false _ (ratK.K_below HB0.out HA.out) HLA.out (by omega) HE.out).mono ?_
  rintro e w1 ⟨rfl, hb⟩
  have HB1 := Aside0.mk (HB0.out.trans (hb.mono HB0.out.size))
  have HX1 := Aside0.mk (HX0.out.below hb HX0.out.lt)
  have HY1 := Aside0.mk (HY0.out.below hb HY0.out.lt)
  have HZ1 := Aside0.mk (HZ0.out.below hb HZ0.out.lt)
  clear hb HX0 HY0 HZ0
  obtain ⟨x0, x1, x2⟩ := box3 HX1.out
  obtain ⟨y0, y1, y2⟩ := box3 HY1.out
  go_wp2_with fail
  refine (l1Zero_calls _).mono ?_
  rintro e wz ⟨A3, c3, B3, d3, rfl, hM, hb⟩
  have hlt := HZ1.out.lt
  have HM := Aside0.mk (Kd.M_mono _ (ok' := fun k => w1.heap.size ≤ k) (fun k hk => hk.2.1) (ratK.M_bound hM))
  have HB3 := Aside0.mk (HB1.out.trans (hb.mono HB1.out.size))
  have HRC := Aside0.mk (HZ1.out.below hb HZ1.out.lt)
  obtain ⟨⟨z0, z1, z2⟩, q0, q1, q2⟩ := bfacts HRC.out
  clear hb hM x0 x1 x2 y0 y1 y2
  go_wp2
  refine bodyPost_ret (ret_rat Try.results42 _ _ (w.heap.size + 1 + 1) _ _ _ rfl (store3 HRC.out)) rfl ?_
  exact ⟨_, _, _, _, rfl, Kd.M_mono _ (fun _ _ => trivial) (far3 (ratK.M_lower HB1.out.size HM.out) (fun k hk => by omega)), below3 HB3.out (by omega)⟩
set_option maxHeartbeats 2000000 in
set_option maxRecDepth 100000 in
theorem sadd_bad2 (r r' : Rt) (A c B d A' c' B' d') (w : World) (ha : ratK.K w r [.bool r.neg, .slice A r.num.length c, .slice B r.den.length d]) (hb : ratK.K w r' [.bool r'.neg, .slice A' r'.num.length c', .slice B' r'.den.length d']) (hl : LimbsR r) (hl' : LimbsR r') (hs : r.num.length + r.den.length + (r'.num.length + r'.den.length) ≤ 1048576) (he : okR r = true) (he' : okR r' = false) :
    Calls Try.prog 42 #[.agg #[.bool r.neg, .slice A r.num.length c, .slice B r.den.length d], .agg #[.bool r'.neg, .slice A' r'.num.length c', .slice B' r'.den.length d']] w (RatPost w (0)) := by
  have HE := Aside0.mk he
  have HE' := Aside0.mk he'
  clear he he'
  have hu := Try.underlying34
  have HA := Aside0.mk ha
  have HB := Aside0.mk hb
  have HLA := Aside0.mk hl
  have HLB := Aside0.mk hl'
  clear ha hb hl hl'
  go_enter Try.func42, Try.ntmps42
  go_wp2_with fail
  have f0 := ((Blk.new w 34 #[.bool r.neg, .slice A r.num.length c, .slice B r.den.length d]).alloc (.cells #[.bool r'.neg, .slice A' r'.num.length c', .slice B' r'.den.length d'] 34)).alloc (.cells #[.bool false, .slice none 0 0, .slice none 0 0] 34)
  have f1 := (Blk.new (w.alloc (.cells #[.bool r.neg, .slice A r.num.length c, .slice B r.den.length d] 34)) 34 #[.bool r'.neg, .slice A' r'.num.length c', .slice B' r'.den.length d']).alloc (.cells #[.bool false, .slice none 0 0, .slice none 0 0] 34)
  rw [show (w.alloc (.cells #[.bool r.neg, .slice A r.num.length c, .slice B r.den.length d] 34)).heap.size = w.heap.size + 1 from by simp] at f1
  have f2 := Blk.new ((w.alloc (.cells #[.bool r.neg, .slice A r.num.length c, .slice B r.den.length d] 34)).alloc (.cells #[.bool r'.neg, .slice A' r'.num.length c', .slice B' r'.den.length d'] 34)) 34 #[.bool false, .slice none 0 0, .slice none 0 0]
  rw [show ((w.alloc (.cells #[.bool r.neg, .slice A r.num.length c, .slice B r.den.length d] 34)).alloc (.cells #[.bool r'.neg, .slice A' r'.num.length c', .slice B' r'.den.length d'] 34)).heap.size = w.heap.size + 1 + 1 from by simp] at f2
  have fb := below_alloc (below_alloc (below_alloc (Below.refl w.heap.size w) (.cells #[.bool r.neg, .slice A r.num.length c, .slice B r.den.length d] 34)) (.cells #[.bool r'.neg, .slice A' r'.num.length c', .slice B' r'.den.length d'] 34)) (.cells #[.bool false, .slice none 0 0, .slice none 0 0] 34)
  generalize (((w.alloc (.cells #[.bool r.neg, .slice A r.num.length c, .slice B r.den.length d] 34)).alloc (.cells #[.bool r'.neg, .slice A' r'.num.length c', .slice B' r'.den.length d'] 34)).alloc (.cells #[.bool false, .slice none 0 0, .slice none 0 0] 34)) = W at f0 f1 f2 fb ⊢
  have HX0 := Aside0.mk f0
  have HY0 := Aside0.mk f1
  have HZ0 := Aside0.mk f2
  have HB0 := Aside0.mk fb
  clear f0 f1 f2 fb
  refine (spec_ok r true _ (ratK.K_below HB0.out HA.out) HLA.out (by omega) HE.out).mono ?_
  rintro e w1 ⟨rfl, hb⟩
  have HB1 := Aside0.mk (HB0.out.trans (hb.mono HB0.out.size))
  have HX1 := Aside0.mk (HX0.out.below hb HX0.out.lt)
  have HY1 := Aside0.mk (HY0.out.below hb HY0.out.lt)
  have HZ1 := Aside0.mk (HZ0.out.below hb HZ0.out.lt)
  clear hb HX0 HY0 HZ0
  obtain ⟨x0, x1, x2⟩ := box3 HX1.out
  obtain ⟨y0, y1, y2⟩ := box3 HY1.out
  go_wp2_with fail
  clear x0 x1 x2 y0 y1 y2
  refine (spec_ok r' false _ (ratK.K_below HB1.out HB.out) HLB.out (by omega) HE'.out).mono ?_
  rintro e w2 ⟨rfl, hb⟩
  have HB2 := Aside0.mk (HB1.out.trans (hb.mono HB1.out.size))
  have HX2 := Aside0.mk (HX1.out.below hb HX1.out.lt)
  have HY2 := Aside0.mk (HY1.out.below hb HY1.out.lt)
  have HZ2 := Aside0.mk (HZ1.out.below hb HZ1.out.lt)
  clear hb HX1 HY1 HZ1
  obtain ⟨x0, x1, x2⟩ := box3 HX2.out
  obtain ⟨y0, y1, y2⟩ := box3 HY2.out
  go_wp2_with fail
  refine (l1Zero_calls _).mono ?_
  rintro e wz ⟨A3, c3, B3, d3, rfl, hM, hb⟩
  have hlt := HZ2.out.lt
  have HM := Aside0.mk (Kd.M_mono _ (ok' := fun k => w2.heap.size ≤ k) (fun k hk => hk.2.1) (ratK.M_bound hM))
  have HB3 := Aside0.mk (HB2.out.trans (hb.mono HB2.out.size))
  have HRC := Aside0.mk (HZ2.out.below hb HZ2.out.lt)
  obtain ⟨⟨z0, z1, z2⟩, q0, q1, q2⟩ := bfacts HRC.out
  clear hb hM x0 x1 x2 y0 y1 y2
  go_wp2
  refine bodyPost_ret (ret_rat Try.results42 _ _ (w.heap.size + 1 + 1) _ _ _ rfl (store3 HRC.out)) rfl ?_
  exact ⟨_, _, _, _, rfl, Kd.M_mono _ (fun _ _ => trivial) (far3 (ratK.M_lower HB2.out.size HM.out) (fun k hk => by omega)), below3 HB3.out (by omega)⟩
set_option maxHeartbeats 2000000 in
set_option maxRecDepth 100000 in
theorem sadd_good (qa qb : Rat) (r r' : Rt) (hqa : r = repr qa) (hqb : r' = repr qb) (A c B d A' c' B' d') (w : World) (ha : ratK.K w r [.bool r.neg, .slice A r.num.length c, .slice B r.den.length d]) (hb : ratK.K w r' [.bool r'.neg, .slice A' r'.num.length c', .slice B' r'.den.length d']) (hl : LimbsR r) (hl' : LimbsR r') (hs : r.num.length + r.den.length + (r'.num.length + r'.den.length) ≤ 1048576)  :
    Calls Try.prog 42 #[.agg #[.bool r.neg, .slice A r.num.length c, .slice B r.den.length d], .agg #[.bool r'.neg, .slice A' r'.num.length c', .slice B' r'.den.length d']] w (RatPost w (qa + qb)) := by
  have HQA := Aside0.mk hqa
  have HQB := Aside0.mk hqb
  have HE := Aside0.mk (show okR r = true by rw [hqa]; exact okR_repr qa)
  have HE' := Aside0.mk (show okR r' = true by rw [hqb]; exact okR_repr qb)
  have hsa : szR qa ≤ 1048576 := by unfold szR; rw [← hqa]; omega
  have hsb : szR qb ≤ 1048576 := by unfold szR; rw [← hqb]; omega
  clear hqa hqb
  have hu := Try.underlying34
  have HA := Aside0.mk ha
  have HB := Aside0.mk hb
  have HLA := Aside0.mk hl
  have HLB := Aside0.mk hl'
  clear ha hb hl hl'
  go_enter Try.func42, Try.ntmps42
  go_wp2_with fail
  have f0 := ((Blk.new w 34 #[.bool r.neg, .slice A r.num.length c, .slice B r.den.length d]).alloc (.cells #[.bool r'.neg, .slice A' r'.num.length c', .slice B' r'.den.length d'] 34)).alloc (.cells #[.bool false, .slice none 0 0, .slice none 0 0] 34)
  have f1 := (Blk.new (w.alloc (.cells #[.bool r.neg, .slice A r.num.length c, .slice B r.den.length d] 34)) 34 #[.bool r'.neg, .slice A' r'.num.length c', .slice B' r'.den.length d']).alloc (.cells #[.bool false, .slice none 0 0, .slice none 0 0] 34)
  rw [show (w.alloc (.cells #[.bool r.neg, .slice A r.num.length c, .slice B r.den.length d] 34)).heap.size = w.heap.size + 1 from by simp] at f1
  have f2 := Blk.new ((w.alloc (.cells #[.bool r.neg, .slice A r.num.length c, .slice B r.den.length d] 34)).alloc (.cells #[.bool r'.neg, .slice A' r'.num.length c', .slice B' r'.den.length d'] 34)) 34 #[.bool false, .slice none 0 0, .slice none 0 0]
  rw [show ((w.alloc (.cells #[.bool r.neg, .slice A r.num.length c, .slice B r.den.length d] 34)).alloc (.cells #[.bool r'.neg, .slice A' r'.num.length c', .slice B' r'.den.length d'] 34)).heap.size = w.heap.size + 1 + 1 from by simp] at f2
  have fb := below_alloc (below_alloc (below_alloc (Below.refl w.heap.size w) (.cells #[.bool r.neg, .slice A r.num.length c, .slice B r.den.length d] 34)) (.cells #[.bool r'.neg, .slice A' r'.num.length c', .slice B' r'.den.length d'] 34)) (.cells #[.bool false, .slice none 0 0, .slice none 0 0] 34)
  generalize (((w.alloc (.cells #[.bool r.neg, .slice A r.num.length c, .slice B r.den.length d] 34)).alloc (.cells #[.bool r'.neg, .slice A' r'.num.length c', .slice B' r'.den.length d'] 34)).alloc (.cells #[.bool false, .slice none 0 0, .slice none 0 0] 34)) = W at f0 f1 f2 fb ⊢
  have HX0 := Aside0.mk f0
  have HY0 := Aside0.mk f1
  have HZ0 := Aside0.mk f2
  have HB0 := Aside0.mk fb
  clear f0 f1 f2 fb
  refine (spec_ok r true _ (ratK.K_below HB0.out HA.out) HLA.out (by omega) HE.out).mono ?_
  rintro e w1 ⟨rfl, hb⟩
  have HB1 := Aside0.mk (HB0.out.trans (hb.mono HB0.out.size))
  have HX1 := Aside0.mk (HX0.out.below hb HX0.out.lt)
  have HY1 := Aside0.mk (HY0.out.below hb HY0.out.lt)
  have HZ1 := Aside0.mk (HZ0.out.below hb HZ0.out.lt)
  clear hb HX0 HY0 HZ0
  obtain ⟨x0, x1, x2⟩ := box3 HX1.out
  obtain ⟨y0, y1, y2⟩ := box3 HY1.out
  go_wp2_with fail
  clear x0 x1 x2 y0 y1 y2
  refine (spec_ok r' true _ (ratK.K_below HB1.out HB.out) HLB.out (by omega) HE'.out).mono ?_
  rintro e w2 ⟨rfl, hb⟩
  have HB2 := Aside0.mk (HB1.out.trans (hb.mono HB1.out.size))
  have HX2 := Aside0.mk (HX1.out.below hb HX1.out.lt)
  have HY2 := Aside0.mk (HY1.out.below hb HY1.out.lt)
  have HZ2 := Aside0.mk (HZ1.out.below hb HZ1.out.lt)
  clear hb HX1 HY1 HZ1
  obtain ⟨x0, x1, x2⟩ := box3 HX2.out
  obtain ⟨y0, y1, y2⟩ := box3 HY2.out
  go_wp2_with fail
  rw [HQA.out, HQB.out]
  refine (l1Add_calls qa qb _ _ _ _ _ _ _ _ _ (by have := ratK.K_below HB2.out HA.out; rw [HQA.out] at this; exact this) (by have := ratK.K_below HB2.out HB.out; rw [HQB.out] at this; exact this) (by omega) (by omega)).mono ?_
  rintro e wz ⟨A3, c3, B3, d3, rfl, hM, hb⟩
  have hlt := HZ2.out.lt
  have HM := Aside0.mk (Kd.M_mono _ (ok' := fun k => w2.heap.size ≤ k) (fun k hk => hk.2.1) (ratK.M_bound hM))
  have HB3 := Aside0.mk (HB2.out.trans (hb.mono HB2.out.size))
  have HRC := Aside0.mk (HZ2.out.below hb HZ2.out.lt)
  obtain ⟨⟨z0, z1, z2⟩, q0, q1, q2⟩ := bfacts HRC.out
  clear hb hM x0 x1 x2 y0 y1 y2
  go_wp2
  refine bodyPost_ret (ret_rat Try.results42 _ _ (w.heap.size + 1 + 1) _ _ _ rfl (store3 HRC.out)) rfl ?_
  exact ⟨_, _, _, _, rfl, Kd.M_mono _ (fun _ _ => trivial) (far3 (ratK.M_lower HB2.out.size HM.out) (fun k hk => by omega)), below3 HB3.out (by omega)⟩
theorem spec_RatAdd_K {s s' : Bool} {A A' B B' : Option Addr} {n c m d n' c' m' d' : Nat} (r r' : Rt) (q : Rat) (w : World) (ha : ratK.K w r [.bool s, .slice A n c, .slice B m d]) (hb : ratK.K w r' [.bool s', .slice A' n' c', .slice B' m' d']) (hl : LimbsR r) (hl' : LimbsR r') (hs : r.num.length + r.den.length + (r'.num.length + r'.den.length) ≤ 1048576) (hq : AddIs r r' q) :
    Calls Try.prog 42 #[.agg #[.bool s, .slice A n c, .slice B m d], .agg #[.bool s', .slice A' n' c', .slice B' m' d']] w (RatPost w q) := by
  obtain ⟨A1, c1, B1, d1, e, _⟩ := ratK_form ha
  obtain ⟨A2, c2, B2, d2, e', _⟩ := ratK_form hb
  simp only [List.cons.injEq, Value.slice.injEq, Value.bool.injEq, and_true] at e e'
  obtain ⟨rfl, ⟨rfl, rfl, rfl⟩, rfl, rfl, rfl⟩ := e
  obtain ⟨rfl, ⟨rfl, rfl, rfl⟩, rfl, rfl, rfl⟩ := e'
  rcases hq with ⟨h, rfl⟩ | ⟨qa, qb, h1, h2, rfl⟩
  · cases e1 : okR r with
    | false => exact sadd_bad1 r r' _ _ _ _ _ _ _ _ w ha hb hl hl' hs e1
    | true =>
      rw [e1, Bool.true_and] at h
      exact sadd_bad2 r r' _ _ _ _ _ _ _ _ w ha hb hl hl' hs e1 h
  · exact sadd_good qa qb r r' h1 h2 _ _ _ _ _ _ _ _ w ha hb hl hl' hs
end Go.Proofs.Ytjmgemmieedkiaa.Hand
