/- The program's mul as a whole, quot, RatMul and RatDiv. Conditions: both rationals can be read, their elements are limbs, and they have at most 2^38 limbs each. -/
import Derived.Test.YtlpckbleokoiiaaZHrat6
import Derived.Test.YtlpckbleokoiiaaZHlrat
set_option linter.unusedVariables false
set_option linter.unusedSimpArgs false
namespace Go.Proofs.Ytlpckbleokoiiaa.Hand
open Go.RowKit Go.Proofs.YtlpckbleokoiiaaW.PrintWords Go.Proofs.YtlpckbleokoiiaaW.PrintLast Go.Proofs.YtlpckbleokoiiaaW.PrintMore
set_option maxHeartbeats 1000000 in
set_option maxRecDepth 100000 in
theorem mul_zero1 (r r' : Rt) (A c B d A' c' B' d') (w : World) (h : r.num.length = 0) :
    Calls Try.prog 45 #[.agg #[.bool r.neg, .slice A r.num.length c, .slice B r.den.length d], .agg #[.bool r'.neg, .slice A' r'.num.length c', .slice B' r'.den.length d']] w (RatPost w 0) := by
  have hu := Try.underlying26
  have d1 : ((r.num.length : Int) == 0) = true := by rw [beq_iff_eq]; omega
  clear h
  go_enter Try.func45, Try.ntmps45
  go_wp2_with fail
  have f0 := ((Blk.new w 26 #[.bool r.neg, .slice A r.num.length c, .slice B r.den.length d]).alloc (.cells #[.bool r'.neg, .slice A' r'.num.length c', .slice B' r'.den.length d'] 26)).alloc (.cells #[.bool false, .slice none 0 0, .slice none 0 0] 26)
  have f1 := (Blk.new (w.alloc (.cells #[.bool r.neg, .slice A r.num.length c, .slice B r.den.length d] 26)) 26 #[.bool r'.neg, .slice A' r'.num.length c', .slice B' r'.den.length d']).alloc (.cells #[.bool false, .slice none 0 0, .slice none 0 0] 26)
  rw [show (w.alloc (.cells #[.bool r.neg, .slice A r.num.length c, .slice B r.den.length d] 26)).heap.size = w.heap.size + 1 from by simp] at f1
  have f2 := Blk.new ((w.alloc (.cells #[.bool r.neg, .slice A r.num.length c, .slice B r.den.length d] 26)).alloc (.cells #[.bool r'.neg, .slice A' r'.num.length c', .slice B' r'.den.length d'] 26)) 26 #[.bool false, .slice none 0 0, .slice none 0 0]
  rw [show ((w.alloc (.cells #[.bool r.neg, .slice A r.num.length c, .slice B r.den.length d] 26)).alloc (.cells #[.bool r'.neg, .slice A' r'.num.length c', .slice B' r'.den.length d'] 26)).heap.size = w.heap.size + 1 + 1 from by simp] at f2
  have fb := below_alloc (below_alloc (below_alloc (Below.refl w.heap.size w) (.cells #[.bool r.neg, .slice A r.num.length c, .slice B r.den.length d] 26)) (.cells #[.bool r'.neg, .slice A' r'.num.length c', .slice B' r'.den.length d'] 26)) (.cells #[.bool false, .slice none 0 0, .slice none 0 0] 26)
  generalize (((w.alloc (.cells #[.bool r.neg, .slice A r.num.length c, .slice B r.den.length d] 26)).alloc (.cells #[.bool r'.neg, .slice A' r'.num.length c', .slice B' r'.den.length d'] 26)).alloc (.cells #[.bool false, .slice none 0 0, .slice none 0 0] 26)) = W at f0 f1 f2 fb ⊢
  have HF2 := Aside0.mk f2
  have HF3 := Aside0.mk fb
  clear f0 f1 f2 fb
  refine (zero_calls _).mono ?_
  rintro e w1 ⟨A3, c3, B3, d3, rfl, hM, hb⟩
  have HM := Aside0.mk (Kd.M_mono _ (ok' := fun k => W.heap.size ≤ k) (fun k hk => hk.2.1) (ratK.M_bound hM))
  have HB3 := Aside0.mk (HF3.out.trans (hb.mono HF3.out.size))
  have HRC := Aside0.mk (HF2.out.below hb HF2.out.lt)
  have hlt := HF2.out.lt
  obtain ⟨⟨z0, z1, z2⟩, q0, q1, q2⟩ := bfacts HRC.out
  clear hb hM
  go_wp2
  refine bodyPost_ret (ret_rat Try.results45 _ _ (w.heap.size + 1 + 1) _ _ _ rfl (store3 HRC.out)) rfl ?_
  exact ⟨_, _, _, _, rfl, Kd.M_mono _ (fun _ _ => trivial) (far3 (ratK.M_lower HF3.out.size HM.out) (fun k hk => by omega)), below3 HB3.out (by omega)⟩
set_option maxHeartbeats 1000000 in
set_option maxRecDepth 100000 in
theorem mul_zero2 (r r' : Rt) (A c B d A' c' B' d') (w : World) (h : r.num.length ≠ 0) (h2 : r'.num.length = 0) :
    Calls Try.prog 45 #[.agg #[.bool r.neg, .slice A r.num.length c, .slice B r.den.length d], .agg #[.bool r'.neg, .slice A' r'.num.length c', .slice B' r'.den.length d']] w (RatPost w 0) := by
  have hu := Try.underlying26
  have d1 : ((r.num.length : Int) == 0) = false := by rw [beq_eq_false_iff_ne]; omega
  have d2 : ((r'.num.length : Int) == 0) = true := by rw [beq_iff_eq]; omega
  clear h h2
  go_enter Try.func45, Try.ntmps45
  go_wp2_with fail
  have f0 := ((Blk.new w 26 #[.bool r.neg, .slice A r.num.length c, .slice B r.den.length d]).alloc (.cells #[.bool r'.neg, .slice A' r'.num.length c', .slice B' r'.den.length d'] 26)).alloc (.cells #[.bool false, .slice none 0 0, .slice none 0 0] 26)
  have f1 := (Blk.new (w.alloc (.cells #[.bool r.neg, .slice A r.num.length c, .slice B r.den.length d] 26)) 26 #[.bool r'.neg, .slice A' r'.num.length c', .slice B' r'.den.length d']).alloc (.cells #[.bool false, .slice none 0 0, .slice none 0 0] 26)
  rw [show (w.alloc (.cells #[.bool r.neg, .slice A r.num.length c, .slice B r.den.length d] 26)).heap.size = w.heap.size + 1 from by simp] at f1
  have f2 := Blk.new ((w.alloc (.cells #[.bool r.neg, .slice A r.num.length c, .slice B r.den.length d] 26)).alloc (.cells #[.bool r'.neg, .slice A' r'.num.length c', .slice B' r'.den.length d'] 26)) 26 #[.bool false, .slice none 0 0, .slice none 0 0]
  rw [show ((w.alloc (.cells #[.bool r.neg, .slice A r.num.length c, .slice B r.den.length d] 26)).alloc (.cells #[.bool r'.neg, .slice A' r'.num.length c', .slice B' r'.den.length d'] 26)).heap.size = w.heap.size + 1 + 1 from by simp] at f2
  have fb := below_alloc (below_alloc (below_alloc (Below.refl w.heap.size w) (.cells #[.bool r.neg, .slice A r.num.length c, .slice B r.den.length d] 26)) (.cells #[.bool r'.neg, .slice A' r'.num.length c', .slice B' r'.den.length d'] 26)) (.cells #[.bool false, .slice none 0 0, .slice none 0 0] 26)
  generalize (((w.alloc (.cells #[.bool r.neg, .slice A r.num.length c, .slice B r.den.length d] 26)).alloc (.cells #[.bool r'.neg, .slice A' r'.num.length c', .slice B' r'.den.length d'] 26)).alloc (.cells #[.bool false, .slice none 0 0, .slice none 0 0] 26)) = W at f0 f1 f2 fb ⊢
  have HF2 := Aside0.mk f2
  have HF3 := Aside0.mk fb
  clear f0 f1 f2 fb
  refine (zero_calls _).mono ?_
  rintro e w1 ⟨A3, c3, B3, d3, rfl, hM, hb⟩
  have HM := Aside0.mk (Kd.M_mono _ (ok' := fun k => W.heap.size ≤ k) (fun k hk => hk.2.1) (ratK.M_bound hM))
  have HB3 := Aside0.mk (HF3.out.trans (hb.mono HF3.out.size))
  have HRC := Aside0.mk (HF2.out.below hb HF2.out.lt)
  have hlt := HF2.out.lt
  obtain ⟨⟨z0, z1, z2⟩, q0, q1, q2⟩ := bfacts HRC.out
  clear hb hM
  go_wp2
  refine bodyPost_ret (ret_rat Try.results45 _ _ (w.heap.size + 1 + 1) _ _ _ rfl (store3 HRC.out)) rfl ?_
  exact ⟨_, _, _, _, rfl, Kd.M_mono _ (fun _ _ => trivial) (far3 (ratK.M_lower HF3.out.size HM.out) (fun k hk => by omega)), below3 HB3.out (by omega)⟩
theorem mulR_calls (qa qb : Rat) (A c B d A' c' B' d') (w : World) (ha : ratK.K w (repr qa) [.bool (repr qa).neg, .slice A (repr qa).num.length c, .slice B (repr qa).den.length d]) (hb : ratK.K w (repr qb) [.bool (repr qb).neg, .slice A' (repr qb).num.length c', .slice B' (repr qb).den.length d'])
    (hna : szR qa ≤ 274877906944) (hnb : szR qb ≤ 274877906944) :
    Calls Try.prog 45 #[.agg #[.bool (repr qa).neg, .slice A (repr qa).num.length c, .slice B (repr qa).den.length d], .agg #[.bool (repr qb).neg, .slice A' (repr qb).num.length c', .slice B' (repr qb).den.length d']] w (RatPost w (qa * qb)) := by
  by_cases h1 : qa = 0
  · rw [h1, Rat.zero_mul]
    have := mul_zero1 (repr 0) (repr qb) A c B d A' c' B' d' w (by rw [repr_num_len])
    rw [← h1] at this
    rw [← h1]
    simpa [h1] using this
  by_cases h2 : qb = 0
  · have h3 : (repr qa).num.length ≠ 0 := fun h => h1 (repr_num_len.1 h)
    have := mul_zero2 (repr qa) (repr qb) A c B d A' c' B' d' w h3 (repr_num_len.2 h2)
    rw [show qa * qb = 0 by rw [h2, Rat.mul_zero]]
    exact this
  · exact mul_big qa qb A c B d A' c' B' d' w ha hb hna hnb h1 h2
theorem K_inv {q : Rat} {w : World} {A B : Option Addr} {n c m d : Nat} {s : Bool} (h : ratK.K w (repr q) [.bool s, .slice A n c, .slice B m d]) (hq : q ≠ 0) : ratK.K w (repr q⁻¹) [.bool s, .slice B m d, .slice A n c] := by
  obtain ⟨A', c', B', d', e, h1, h2, h3, h4⟩ := ratK_form h
  simp only [List.cons.injEq, Value.slice.injEq, Value.bool.injEq, and_true] at e
  obtain ⟨rfl, ⟨rfl, rfl, rfl⟩, rfl, rfl, rfl⟩ := e
  rw [repr_inv hq]
  exact ratK_of h3 h4 h1 h2
theorem szR_inv {q : Rat} (hq : q ≠ 0) : szR q⁻¹ = szR q := by unfold szR; rw [repr_inv hq]; exact Nat.add_comm _ _
set_option maxHeartbeats 1000000 in
set_option maxRecDepth 100000 in
theorem quot_calls (qa qb : Rat) (A c B d A' c' B' d') (w : World) (ha : ratK.K w (repr qa) [.bool (repr qa).neg, .slice A (repr qa).num.length c, .slice B (repr qa).den.length d]) (hb : ratK.K w (repr qb) [.bool (repr qb).neg, .slice A' (repr qb).num.length c', .slice B' (repr qb).den.length d'])
    (hna : szR qa ≤ 274877906944) (hnb : szR qb ≤ 274877906944) (hz : qb ≠ 0) :
    Calls Try.prog 53 #[.agg #[.bool (repr qa).neg, .slice A (repr qa).num.length c, .slice B (repr qa).den.length d], .agg #[.bool (repr qb).neg, .slice A' (repr qb).num.length c', .slice B' (repr qb).den.length d']] w (RatPost w (qa / qb)) := by
  have hu := Try.underlying26
  have hi := mulR_calls qa qb⁻¹ A c B d B' d' A' c'
  rw [repr_inv hz] at hi
  have HI := Aside0.mk hi
  have HKI := Aside0.mk (K_inv hb hz)
  have HS := Aside0.mk (szR_inv hz)
  obtain ⟨r, hr⟩ : ∃ r, r = repr qa := ⟨_, rfl⟩
  obtain ⟨r', hr'⟩ : ∃ r, r = repr qb := ⟨_, rfl⟩
  have HQA := Aside0.mk hr
  have HQB := Aside0.mk hr'
  rw [← hr] at ha ⊢
  rw [← hr'] at hb ⊢
  have HA := Aside0.mk ha
  clear hr hr' ha hb hi
  go_enter Try.func53, Try.ntmps53
  go_wp2_with fail
  have f0 := ((Blk.new w 26 #[.bool r.neg, .slice A r.num.length c, .slice B r.den.length d]).alloc (.cells #[.bool r'.neg, .slice A' r'.num.length c', .slice B' r'.den.length d'] 26)).alloc (.cells #[.bool false, .slice none 0 0, .slice none 0 0] 26)
  have f1 := (Blk.new (w.alloc (.cells #[.bool r.neg, .slice A r.num.length c, .slice B r.den.length d] 26)) 26 #[.bool r'.neg, .slice A' r'.num.length c', .slice B' r'.den.length d']).alloc (.cells #[.bool false, .slice none 0 0, .slice none 0 0] 26)
  rw [show (w.alloc (.cells #[.bool r.neg, .slice A r.num.length c, .slice B r.den.length d] 26)).heap.size = w.heap.size + 1 from by simp] at f1
  have f2 := Blk.new ((w.alloc (.cells #[.bool r.neg, .slice A r.num.length c, .slice B r.den.length d] 26)).alloc (.cells #[.bool r'.neg, .slice A' r'.num.length c', .slice B' r'.den.length d'] 26)) 26 #[.bool false, .slice none 0 0, .slice none 0 0]
  rw [show ((w.alloc (.cells #[.bool r.neg, .slice A r.num.length c, .slice B r.den.length d] 26)).alloc (.cells #[.bool r'.neg, .slice A' r'.num.length c', .slice B' r'.den.length d'] 26)).heap.size = w.heap.size + 1 + 1 from by simp] at f2
  have fb := below_alloc (below_alloc (below_alloc (Below.refl w.heap.size w) (.cells #[.bool r.neg, .slice A r.num.length c, .slice B r.den.length d] 26)) (.cells #[.bool r'.neg, .slice A' r'.num.length c', .slice B' r'.den.length d'] 26)) (.cells #[.bool false, .slice none 0 0, .slice none 0 0] 26)
  generalize (((w.alloc (.cells #[.bool r.neg, .slice A r.num.length c, .slice B r.den.length d] 26)).alloc (.cells #[.bool r'.neg, .slice A' r'.num.length c', .slice B' r'.den.length d'] 26)).alloc (.cells #[.bool false, .slice none 0 0, .slice none 0 0] 26)) = W at f0 f1 f2 fb ⊢
  have HF2 := Aside0.mk f2
  have HF3 := Aside0.mk fb
  clear f0 f1 f2 fb
  rw [HQA.out, HQB.out]
  have hm := HI.out W (ratK.K_below HF3.out (by have := HA.out; rw [HQA.out] at this; exact this)) (ratK.K_below HF3.out (by have := HKI.out; rw [repr_inv hz] at this; exact this)) hna (by rw [HS.out]; exact hnb)
  refine hm.mono ?_
  rintro e w1 ⟨A3, c3, B3, d3, rfl, hM, hb⟩
  have HM := Aside0.mk (Kd.M_mono _ (ok' := fun k => W.heap.size ≤ k) (fun k hk => hk.2.1) (ratK.M_bound hM))
  have HB3 := Aside0.mk (HF3.out.trans (hb.mono HF3.out.size))
  have HRC := Aside0.mk (HF2.out.below hb HF2.out.lt)
  have hlt := HF2.out.lt
  obtain ⟨⟨z0, z1, z2⟩, q0, q1, q2⟩ := bfacts HRC.out
  clear hb hM hm
  rw [← Rat.div_def] at HM ⊢
  go_wp2
  refine bodyPost_ret (ret_rat Try.results53 _ _ (w.heap.size + 1 + 1) _ _ _ rfl (store3 HRC.out)) rfl ?_
  exact ⟨_, _, _, _, rfl, Kd.M_mono _ (fun _ _ => trivial) (far3 (ratK.M_lower HF3.out.size HM.out) (fun k hk => by omega)), below3 HB3.out (by omega)⟩
/-- A block of two rationals one behind the other reads as a list. -/
theorem C_two {w : World} {g : Nat} {t : TypeId} {r r' : Rt} {a0 a1 a2 b0 b1 b2 : Value} (h : Blk w g t #[a0, a1, a2, b0, b1, b2]) (ha : ratK.K w r [a0, a1, a2]) (hb : ratK.K w r' [b0, b1, b2]) : ratK.C w (some ⟨g, 0, none⟩) [r, r'].length [r, r'] := by
  refine ⟨rfl, by simp, fun _ => ⟨_, rfl, fun j p hj => ?_⟩⟩
  match j, hj with
  | 0, hj =>
    have e : r = p := by simpa using hj
    subst e
    refine ⟨_, rfl, ha, fun i u hu => ?_⟩
    rw [add_plain, h.cell]
    match i, hu with
    | 0, hu => simpa using hu
    | 1, hu => simpa using hu
    | 2, hu => simpa using hu
  | 1, hj =>
    have e : r' = p := by simpa using hj
    subst e
    refine ⟨_, rfl, hb, fun i u hu => ?_⟩
    rw [add_plain, h.cell, show ratK.sz = 3 from rfl]
    match i, hu with
    | 0, hu => simpa using hu
    | 1, hu => simpa using hu
    | 2, hu => simpa using hu
theorem okL_two (r r' : Rt) : okL [r, r'] = (okR r && okR r') := by simp [okL]
theorem ok2_calls (g : Nat) (r r' : Rt) (a0 a1 a2 b0 b1 b2 : Value) (b : Bool) (w : World) (h : Blk w g 26 #[a0, a1, a2, b0, b1, b2]) (ha : ratK.K w r [a0, a1, a2]) (hb : ratK.K w r' [b0, b1, b2]) (hg : RtGood r) (hg' : RtGood r') (he : (okR r && okR r') = b) :
    Calls Try.prog 42 #[.slice (some ⟨g, 0, none⟩) 2 2] w fun e w' => e = .returned (.bool b) ∧ Below w.heap.size w w' :=
  ok_calls _ 2 [r, r'] b w (C_two h ha hb) (fun x hx => by simp at hx; rcases hx with rfl | rfl; exact hg; exact hg') (by rw [okL_two]; exact he)
set_option maxHeartbeats 1000000 in
set_option maxRecDepth 100000 in
theorem RatMul_bad (r r' : Rt) (A c B d A' c' B' d') (w : World) (ha : ratK.K w r [.bool r.neg, .slice A r.num.length c, .slice B r.den.length d]) (hb : ratK.K w r' [.bool r'.neg, .slice A' r'.num.length c', .slice B' r'.den.length d']) (hg : RtGood r) (hg' : RtGood r') (he : (okR r && okR r') = false) :
    Calls Try.prog 11 #[.agg #[.bool r.neg, .slice A r.num.length c, .slice B r.den.length d], .agg #[.bool r'.neg, .slice A' r'.num.length c', .slice B' r'.den.length d']] w (RatPost w 0) := by
  have hu := Try.underlying26
  have HA := Aside0.mk ha
  have HB := Aside0.mk hb
  have HG := Aside0.mk hg
  have HG' := Aside0.mk hg'
  have HE := Aside0.mk he
  clear ha hb hg hg' he
  go_enter Try.func11, Try.ntmps11
  go_wp2_with fail
  have f0 := (((Blk.new w 26 #[.bool r.neg, .slice A r.num.length c, .slice B r.den.length d]).alloc (.cells #[.bool r'.neg, .slice A' r'.num.length c', .slice B' r'.den.length d'] 26)).alloc (.cells #[.bool false, .slice none 0 0, .slice none 0 0] 26)).alloc (.cells #[.bool r.neg, .slice A r.num.length c, .slice B r.den.length d, .bool r'.neg, .slice A' r'.num.length c', .slice B' r'.den.length d'] 26)
  have f1 := ((Blk.new (w.alloc (.cells #[.bool r.neg, .slice A r.num.length c, .slice B r.den.length d] 26)) 26 #[.bool r'.neg, .slice A' r'.num.length c', .slice B' r'.den.length d']).alloc (.cells #[.bool false, .slice none 0 0, .slice none 0 0] 26)).alloc (.cells #[.bool r.neg, .slice A r.num.length c, .slice B r.den.length d, .bool r'.neg, .slice A' r'.num.length c', .slice B' r'.den.length d'] 26)
  rw [show (w.alloc (.cells #[.bool r.neg, .slice A r.num.length c, .slice B r.den.length d] 26)).heap.size = w.heap.size + 1 from by simp] at f1
  have f2 := (Blk.new ((w.alloc (.cells #[.bool r.neg, .slice A r.num.length c, .slice B r.den.length d] 26)).alloc (.cells #[.bool r'.neg, .slice A' r'.num.length c', .slice B' r'.den.length d'] 26)) 26 #[.bool false, .slice none 0 0, .slice none 0 0]).alloc (.cells #[.bool r.neg, .slice A r.num.length c, .slice B r.den.length d, .bool r'.neg, .slice A' r'.num.length c', .slice B' r'.den.length d'] 26)
  rw [show ((w.alloc (.cells #[.bool r.neg, .slice A r.num.length c, .slice B r.den.length d] 26)).alloc (.cells #[.bool r'.neg, .slice A' r'.num.length c', .slice B' r'.den.length d'] 26)).heap.size = w.heap.size + 1 + 1 from by simp] at f2
  have f3 := Blk.new (((w.alloc (.cells #[.bool r.neg, .slice A r.num.length c, .slice B r.den.length d] 26)).alloc (.cells #[.bool r'.neg, .slice A' r'.num.length c', .slice B' r'.den.length d'] 26)).alloc (.cells #[.bool false, .slice none 0 0, .slice none 0 0] 26)) 26 #[.bool r.neg, .slice A r.num.length c, .slice B r.den.length d, .bool r'.neg, .slice A' r'.num.length c', .slice B' r'.den.length d']
  rw [show (((w.alloc (.cells #[.bool r.neg, .slice A r.num.length c, .slice B r.den.length d] 26)).alloc (.cells #[.bool r'.neg, .slice A' r'.num.length c', .slice B' r'.den.length d'] 26)).alloc (.cells #[.bool false, .slice none 0 0, .slice none 0 0] 26)).heap.size = w.heap.size + 1 + 1 + 1 from by simp] at f3
  have fb := below_alloc (below_alloc (below_alloc (below_alloc (Below.refl w.heap.size w) (.cells #[.bool r.neg, .slice A r.num.length c, .slice B r.den.length d] 26)) (.cells #[.bool r'.neg, .slice A' r'.num.length c', .slice B' r'.den.length d'] 26)) (.cells #[.bool false, .slice none 0 0, .slice none 0 0] 26)) (.cells #[.bool r.neg, .slice A r.num.length c, .slice B r.den.length d, .bool r'.neg, .slice A' r'.num.length c', .slice B' r'.den.length d'] 26)
  generalize ((((w.alloc (.cells #[.bool r.neg, .slice A r.num.length c, .slice B r.den.length d] 26)).alloc (.cells #[.bool r'.neg, .slice A' r'.num.length c', .slice B' r'.den.length d'] 26)).alloc (.cells #[.bool false, .slice none 0 0, .slice none 0 0] 26)).alloc (.cells #[.bool r.neg, .slice A r.num.length c, .slice B r.den.length d, .bool r'.neg, .slice A' r'.num.length c', .slice B' r'.den.length d'] 26)) = W at f0 f1 f2 f3 fb ⊢
  obtain ⟨x0, x1, x2⟩ := box3 f0
  have HF0 := Aside0.mk f0
  have HF1 := Aside0.mk f1
  have HF2 := Aside0.mk f2
  have HF4 := Aside0.mk f3
  have HF3 := Aside0.mk fb
  clear f0 f1 f2 f3 fb x0 x1 x2
  refine (ok2_calls (w.heap.size + 1 + 1 + 1) r r' _ _ _ _ _ _ false _ HF4.out (ratK.K_below HF3.out HA.out) (ratK.K_below HF3.out HB.out) HG.out HG'.out HE.out).mono ?_
  rintro e w1 ⟨rfl, hb⟩
  have HB1 := Aside0.mk (HF3.out.trans (hb.mono HF3.out.size))
  have HX1 := Aside0.mk (HF0.out.below hb HF0.out.lt)
  have HY1 := Aside0.mk (HF1.out.below hb HF1.out.lt)
  have HR1 := Aside0.mk (HF2.out.below hb HF2.out.lt)
  have hlt := HF2.out.lt
  have hsz := hb.size
  obtain ⟨x0, x1, x2⟩ := box3 HX1.out
  obtain ⟨y0, y1, y2⟩ := box3 HY1.out
  clear hb HF0 HF1 HF2 HF4
  go_wp2_with fail
  refine (zero_calls _).mono ?_
  rintro e w2 ⟨A3, c3, B3, d3, rfl, hM, hb⟩
  have HM := Aside0.mk (Kd.M_mono _ (ok' := fun k => w1.heap.size ≤ k) (fun k hk => hk.2.1) (ratK.M_bound hM))
  have HB3 := Aside0.mk (HB1.out.trans (hb.mono HB1.out.size))
  have HRC := Aside0.mk (HR1.out.below hb HR1.out.lt)
  obtain ⟨⟨z0, z1, z2⟩, q0, q1, q2⟩ := bfacts HRC.out
  clear hb hM x0 x1 x2 y0 y1 y2
  go_wp2
  refine bodyPost_ret (ret_rat Try.results11 _ _ (w.heap.size + 1 + 1) _ _ _ rfl (store3 HRC.out)) rfl ?_
  exact ⟨_, _, _, _, rfl, Kd.M_mono _ (fun _ _ => trivial) (far3 (ratK.M_lower HB1.out.size HM.out) (fun k hk => by omega)), below3 HB3.out (by omega)⟩
set_option maxHeartbeats 1000000 in
set_option maxRecDepth 100000 in
theorem RatMul_good (qa qb : Rat) (r r' : Rt) (hqa : r = repr qa) (hqb : r' = repr qb) (A c B d A' c' B' d') (w : World) (ha : ratK.K w r [.bool r.neg, .slice A r.num.length c, .slice B r.den.length d]) (hb : ratK.K w r' [.bool r'.neg, .slice A' r'.num.length c', .slice B' r'.den.length d']) (hg : RtGood r) (hg' : RtGood r') (hna : szR qa ≤ 274877906944) (hnb : szR qb ≤ 274877906944) :
    Calls Try.prog 11 #[.agg #[.bool r.neg, .slice A r.num.length c, .slice B r.den.length d], .agg #[.bool r'.neg, .slice A' r'.num.length c', .slice B' r'.den.length d']] w (RatPost w (qa * qb)) := by
  have he : (okR r && okR r') = true := by rw [hqa, hqb, okR_repr, okR_repr]; rfl
  have HQA := Aside0.mk hqa
  have HQB := Aside0.mk hqb
  clear hqa hqb
  have hu := Try.underlying26
  have HA := Aside0.mk ha
  have HB := Aside0.mk hb
  have HG := Aside0.mk hg
  have HG' := Aside0.mk hg'
  have HE := Aside0.mk he
  clear ha hb hg hg' he
  go_enter Try.func11, Try.ntmps11
  go_wp2_with fail
  have f0 := (((Blk.new w 26 #[.bool r.neg, .slice A r.num.length c, .slice B r.den.length d]).alloc (.cells #[.bool r'.neg, .slice A' r'.num.length c', .slice B' r'.den.length d'] 26)).alloc (.cells #[.bool false, .slice none 0 0, .slice none 0 0] 26)).alloc (.cells #[.bool r.neg, .slice A r.num.length c, .slice B r.den.length d, .bool r'.neg, .slice A' r'.num.length c', .slice B' r'.den.length d'] 26)
  have f1 := ((Blk.new (w.alloc (.cells #[.bool r.neg, .slice A r.num.length c, .slice B r.den.length d] 26)) 26 #[.bool r'.neg, .slice A' r'.num.length c', .slice B' r'.den.length d']).alloc (.cells #[.bool false, .slice none 0 0, .slice none 0 0] 26)).alloc (.cells #[.bool r.neg, .slice A r.num.length c, .slice B r.den.length d, .bool r'.neg, .slice A' r'.num.length c', .slice B' r'.den.length d'] 26)
  rw [show (w.alloc (.cells #[.bool r.neg, .slice A r.num.length c, .slice B r.den.length d] 26)).heap.size = w.heap.size + 1 from by simp] at f1
  have f2 := (Blk.new ((w.alloc (.cells #[.bool r.neg, .slice A r.num.length c, .slice B r.den.length d] 26)).alloc (.cells #[.bool r'.neg, .slice A' r'.num.length c', .slice B' r'.den.length d'] 26)) 26 #[.bool false, .slice none 0 0, .slice none 0 0]).alloc (.cells #[.bool r.neg, .slice A r.num.length c, .slice B r.den.length d, .bool r'.neg, .slice A' r'.num.length c', .slice B' r'.den.length d'] 26)
  rw [show ((w.alloc (.cells #[.bool r.neg, .slice A r.num.length c, .slice B r.den.length d] 26)).alloc (.cells #[.bool r'.neg, .slice A' r'.num.length c', .slice B' r'.den.length d'] 26)).heap.size = w.heap.size + 1 + 1 from by simp] at f2
  have f3 := Blk.new (((w.alloc (.cells #[.bool r.neg, .slice A r.num.length c, .slice B r.den.length d] 26)).alloc (.cells #[.bool r'.neg, .slice A' r'.num.length c', .slice B' r'.den.length d'] 26)).alloc (.cells #[.bool false, .slice none 0 0, .slice none 0 0] 26)) 26 #[.bool r.neg, .slice A r.num.length c, .slice B r.den.length d, .bool r'.neg, .slice A' r'.num.length c', .slice B' r'.den.length d']
  rw [show (((w.alloc (.cells #[.bool r.neg, .slice A r.num.length c, .slice B r.den.length d] 26)).alloc (.cells #[.bool r'.neg, .slice A' r'.num.length c', .slice B' r'.den.length d'] 26)).alloc (.cells #[.bool false, .slice none 0 0, .slice none 0 0] 26)).heap.size = w.heap.size + 1 + 1 + 1 from by simp] at f3
  have fb := below_alloc (below_alloc (below_alloc (below_alloc (Below.refl w.heap.size w) (.cells #[.bool r.neg, .slice A r.num.length c, .slice B r.den.length d] 26)) (.cells #[.bool r'.neg, .slice A' r'.num.length c', .slice B' r'.den.length d'] 26)) (.cells #[.bool false, .slice none 0 0, .slice none 0 0] 26)) (.cells #[.bool r.neg, .slice A r.num.length c, .slice B r.den.length d, .bool r'.neg, .slice A' r'.num.length c', .slice B' r'.den.length d'] 26)
  generalize ((((w.alloc (.cells #[.bool r.neg, .slice A r.num.length c, .slice B r.den.length d] 26)).alloc (.cells #[.bool r'.neg, .slice A' r'.num.length c', .slice B' r'.den.length d'] 26)).alloc (.cells #[.bool false, .slice none 0 0, .slice none 0 0] 26)).alloc (.cells #[.bool r.neg, .slice A r.num.length c, .slice B r.den.length d, .bool r'.neg, .slice A' r'.num.length c', .slice B' r'.den.length d'] 26)) = W at f0 f1 f2 f3 fb ⊢
  obtain ⟨x0, x1, x2⟩ := box3 f0
  have HF0 := Aside0.mk f0
  have HF1 := Aside0.mk f1
  have HF2 := Aside0.mk f2
  have HF4 := Aside0.mk f3
  have HF3 := Aside0.mk fb
  clear f0 f1 f2 f3 fb x0 x1 x2
  refine (ok2_calls (w.heap.size + 1 + 1 + 1) r r' _ _ _ _ _ _ true _ HF4.out (ratK.K_below HF3.out HA.out) (ratK.K_below HF3.out HB.out) HG.out HG'.out HE.out).mono ?_
  rintro e w1 ⟨rfl, hb⟩
  have HB1 := Aside0.mk (HF3.out.trans (hb.mono HF3.out.size))
  have HX1 := Aside0.mk (HF0.out.below hb HF0.out.lt)
  have HY1 := Aside0.mk (HF1.out.below hb HF1.out.lt)
  have HR1 := Aside0.mk (HF2.out.below hb HF2.out.lt)
  have hlt := HF2.out.lt
  have hsz := hb.size
  obtain ⟨x0, x1, x2⟩ := box3 HX1.out
  obtain ⟨y0, y1, y2⟩ := box3 HY1.out
  clear hb HF0 HF1 HF2 HF4
  go_wp2_with fail
  rw [HQA.out, HQB.out]
  refine (mulR_calls qa qb _ _ _ _ _ _ _ _ _ (ratK.K_below HB1.out (by have := HA.out; rw [HQA.out] at this; exact this)) (ratK.K_below HB1.out (by have := HB.out; rw [HQB.out] at this; exact this)) hna hnb).mono ?_
  rintro e w2 ⟨A3, c3, B3, d3, rfl, hM, hb⟩
  have HM := Aside0.mk (Kd.M_mono _ (ok' := fun k => w1.heap.size ≤ k) (fun k hk => hk.2.1) (ratK.M_bound hM))
  have HB3 := Aside0.mk (HB1.out.trans (hb.mono HB1.out.size))
  have HRC := Aside0.mk (HR1.out.below hb HR1.out.lt)
  obtain ⟨⟨z0, z1, z2⟩, q0, q1, q2⟩ := bfacts HRC.out
  clear hb hM x0 x1 x2 y0 y1 y2
  go_wp2
  refine bodyPost_ret (ret_rat Try.results11 _ _ (w.heap.size + 1 + 1) _ _ _ rfl (store3 HRC.out)) rfl ?_
  exact ⟨_, _, _, _, rfl, Kd.M_mono _ (fun _ _ => trivial) (far3 (ratK.M_lower HB1.out.size HM.out) (fun k hk => by omega)), below3 HB3.out (by omega)⟩
/-- What RatMul hands back. -/
def MulIs (r r' : Rt) (q : Rat) : Prop := ((okR r && okR r') = false ∧ q = 0) ∨ ∃ qa qb, r = repr qa ∧ r' = repr qb ∧ q = qa * qb
theorem RatMul_K {s s' : Bool} {A A' B B' : Option Addr} {n c m d n' c' m' d' : Nat} (r r' : Rt) (q : Rat) (w : World) (ha : ratK.K w r [.bool s, .slice A n c, .slice B m d]) (hb : ratK.K w r' [.bool s', .slice A' n' c', .slice B' m' d']) (hl : LimbsR r) (hl' : LimbsR r') (hs : r.num.length + r.den.length + (r'.num.length + r'.den.length) ≤ 1048576) (hq : MulIs r r' q) :
    Calls Try.prog 11 #[.agg #[.bool s, .slice A n c, .slice B m d], .agg #[.bool s', .slice A' n' c', .slice B' m' d']] w (RatPost w q) := by
  obtain ⟨A1, c1, B1, d1, e, _⟩ := ratK_form ha
  obtain ⟨A2, c2, B2, d2, e', _⟩ := ratK_form hb
  simp only [List.cons.injEq, Value.slice.injEq, Value.bool.injEq, and_true] at e e'
  obtain ⟨rfl, ⟨rfl, rfl, rfl⟩, rfl, rfl, rfl⟩ := e
  obtain ⟨rfl, ⟨rfl, rfl, rfl⟩, rfl, rfl, rfl⟩ := e'
  have g : RtGood r := ⟨hl.1, hl.2, by omega, by omega⟩
  have g' : RtGood r' := ⟨hl'.1, hl'.2, by omega, by omega⟩
  rcases hq with ⟨h, rfl⟩ | ⟨qa, qb, h1, h2, rfl⟩
  · exact RatMul_bad r r' _ _ _ _ _ _ _ _ w ha hb g g' h
  · exact RatMul_good qa qb r r' h1 h2 _ _ _ _ _ _ _ _ w ha hb g g' (by unfold szR; rw [← h1]; omega) (by unfold szR; rw [← h2]; omega)
end Go.Proofs.Ytlpckbleokoiiaa.Hand
