/- The document's l1Neg, l1Sub, l1Sign, l1Cmp, RatCmp and RatAdd. Conditions: the rationals can be read, their elements are limbs, and they have at most 2^37 limbs (RatCmp, RatAdd: 2^20 together). -/
import Derived.Test.YtlpckbleokoiiaaZHsadd
import Derived.Deep.RegionHeld3
set_option linter.unusedVariables false
set_option linter.unusedSimpArgs false
namespace Go.Proofs.Ytlpckbleokoiiaa.Hand
open Go.RowKit Go.Proofs.YtlpckbleokoiiaaW.PrintWords Go.Proofs.YtlpckbleokoiiaaW.PrintLast Go.Proofs.YtlpckbleokoiiaaW.PrintMore
theorem szR_neg (q : Rat) : szR (-q) = szR q := by unfold szR; rw [repr_neg]
/-- The sign's field written. -/
theorem ratM_neg {w : World} {base : Nat} {ok : Nat → Prop} {r : Rt} {v v' : Value} {s : Bool} (h : ratK.M w base ok r [.bool s, v, v']) (b : Bool) : ratK.M w base ok ⟨b, r.num, r.den⟩ [.bool b, v, v'] := by
  obtain ⟨P, rfl, h1, h2⟩ := ratK_rows h
  exact ratK_made2 (natK_made h1) (natK_made h2) (fun k hk => hk.1) (fun k hk => hk.1) (fun k hk hk' => hk'.2 hk.2)
set_option maxHeartbeats 2000000 in
set_option maxRecDepth 100000 in
theorem l1Neg_calls (q : Rat) (A c B d) (w : World) (hr : ratK.K w (repr q) [.bool (repr q).neg, .slice A (repr q).num.length c, .slice B (repr q).den.length d]) (hn : szR q ≤ 1099511627776) :
    Calls Try.prog 73 #[.agg #[.bool (repr q).neg, .slice A (repr q).num.length c, .slice B (repr q).den.length d]] w (RatPost w (-q)) := by
  have hu := Try.underlying26
  unfold szR at hn
  have HQ := Aside0.mk (repr_neg q)
  obtain ⟨b, hb0⟩ : ∃ b, (decide (q ≠ 0) && !(repr q).neg) = b := ⟨_, rfl⟩
  rw [hb0] at HQ
  have hz : q ≠ 0 ↔ (repr q).num.length ≠ 0 := not_congr repr_num_len.symm
  obtain ⟨r, hr'⟩ : ∃ r, r = repr q := ⟨_, rfl⟩
  rw [← hr'] at hr hn HQ hb0 hz ⊢
  have HR := Aside0.mk hr
  have hbb : (r.neg = true ∧ b = false) ∨ (r.neg = false ∧ decide (0 < r.num.length) = b) := by
    cases hs : r.neg with
    | true => left; rw [hs] at hb0; simp at hb0; exact ⟨rfl, by rw [← hb0]⟩
    | false =>
      right
      refine ⟨rfl, ?_⟩
      rw [← hb0, hs]
      by_cases h0 : q ≠ 0
      · have := hz.1 h0
        rw [decide_eq_true h0, decide_eq_true (by omega)]; rfl
      · have : ¬ r.num.length ≠ 0 := fun h => h0 (hz.2 h)
        rw [decide_eq_false h0, decide_eq_false (by omega)]; rfl
  clear hr hr' hz hb0
  go_enter Try.func73, Try.ntmps73
  go_wp2_with fail
  have f0 := (Blk.new w 26 #[.bool r.neg, .slice A r.num.length c, .slice B r.den.length d]).alloc (.cells #[.bool false, .slice none 0 0, .slice none 0 0] 26)
  have f1 := Blk.new (w.alloc (.cells #[.bool r.neg, .slice A r.num.length c, .slice B r.den.length d] 26)) 26 #[.bool false, .slice none 0 0, .slice none 0 0]
  rw [show (w.alloc (.cells #[.bool r.neg, .slice A r.num.length c, .slice B r.den.length d] 26)).heap.size = w.heap.size + 1 from by simp] at f1
  have fb := below_alloc (below_alloc (Below.refl w.heap.size w) (.cells #[.bool r.neg, .slice A r.num.length c, .slice B r.den.length d] 26)) (.cells #[.bool false, .slice none 0 0, .slice none 0 0] 26)
  generalize ((w.alloc (.cells #[.bool r.neg, .slice A r.num.length c, .slice B r.den.length d] 26)).alloc (.cells #[.bool false, .slice none 0 0, .slice none 0 0] 26)) = W at f0 f1 fb ⊢
  have HX := Aside0.mk f0
  have HZ := Aside0.mk f1
  have HB0 := Aside0.mk fb
  clear f0 f1 fb
  refine (l1Copy_K r _ (ratK.K_below HB0.out HR.out) (by omega)).mono ?_
  rintro e w1 ⟨A1, c1, B1, d1, rfl, hM, hb⟩
  have HX1 := Aside0.mk (HX.out.below hb HX.out.lt)
  have HZ1 := Aside0.mk (HZ.out.below hb HZ.out.lt)
  have HB1 := Aside0.mk (HB0.out.trans (hb.mono HB0.out.size))
  have HM := Aside0.mk hM
  have hs1 := hb.size
  clear hM hb
  go_upto_region 2 with fail
  have HC := Aside0.mk (Blk.new w1 26 #[.bool r.neg, .slice A1 r.num.length c1, .slice B1 r.den.length d1])
  have hb := below_alloc (Below.refl w1.heap.size w1) (.cells #[.bool r.neg, .slice A1 r.num.length c1, .slice B1 r.den.length d1] 26)
  generalize w1.alloc (.cells #[.bool r.neg, .slice A1 r.num.length c1, .slice B1 r.den.length d1] 26) = w2 at HC hb ⊢
  have HX2 := Aside0.mk (HX1.out.below hb HX1.out.lt)
  have HZ2 := Aside0.mk (HZ1.out.below hb HZ1.out.lt)
  have HB2 := Aside0.mk (HB1.out.trans (hb.mono HB1.out.size))
  have HM2 := Aside0.mk (Kd.M_below (ratM_neg (ratK.M_lower HB0.out.size (Kd.M_mono _ (ok' := fun k => W.heap.size ≤ k ∧ k < w1.heap.size) (fun k hk => ⟨hk.2.1, hk.2.2.1⟩) (ratK.M_bound HM.out))) b) hb)
  clear hb
  have hlt := HZ.out.lt
  obtain ⟨g, hg⟩ : ∃ g, g = w1.heap.size := ⟨_, rfl⟩
  rw [← hg] at HC ⊢
  have HC3 := Aside0.mk (HC.out.set_ 0 (.bool b))
  have HZ3 := Aside0.mk (HZ2.out.far (p := ⟨g, 0, none⟩) (by show w.heap.size + 1 ≠ g; omega) (.bool b))
  have HB3 := Aside0.mk (HB2.out.setCell (p := ⟨g, 0, none⟩) (by show w.heap.size ≤ g; omega) (.bool b))
  have HM3 := Aside0.mk (Kd.M_far HM2.out (p := ⟨g, 0, none⟩) (fun k hk => by show k ≠ g; omega) (.bool b))
  clear hg
  rcases hbb with ⟨hs, rfl⟩ | ⟨hs, hd⟩
  · obtain ⟨x0, x1, x2⟩ := box3 HX2.out
    obtain ⟨⟨c0, c1', c2⟩, c3, c4, c5⟩ := bfacts HC.out
    rw [hs] at x0 c0
    go_upto_region 3 with fail
    generalize w2.setCell ⟨g, 0, none⟩ (.bool false) = w3 at HC3 HZ3 HB3 HM3 ⊢
    obtain ⟨c0, c1', c2⟩ := box3 HC3.out
    obtain ⟨⟨z0, z1, z2⟩, q0, q1, q2⟩ := bfacts HZ3.out
    go_wp2
    refine bodyPost_ret (ret_rat Try.results73 _ _ (w.heap.size + 1) _ _ _ rfl (store3 HZ3.out)) rfl ?_
    refine rat_post2 HQ.out ?_ (below3 HB3.out (by omega))
    exact Kd.M_mono _ (fun _ _ => trivial) (far3 HM3.out (fun k hk => by omega))
  · obtain ⟨x0, x1, x2⟩ := box3 HX2.out
    obtain ⟨⟨c0, c1', c2⟩, c3, c4, c5⟩ := bfacts HC.out
    rw [hs] at x0 c0
    go_upto_region 3 with fail
    try rw [hd]
    generalize w2.setCell ⟨g, 0, none⟩ (.bool b) = w3 at HC3 HZ3 HB3 HM3 ⊢
    obtain ⟨c0, c1', c2⟩ := box3 HC3.out
    obtain ⟨⟨z0, z1, z2⟩, q0, q1, q2⟩ := bfacts HZ3.out
    go_wp2
    refine bodyPost_ret (ret_rat Try.results73 _ _ (w.heap.size + 1) _ _ _ rfl (store3 HZ3.out)) rfl ?_
    refine rat_post2 HQ.out ?_ (below3 HB3.out (by omega))
    exact Kd.M_mono _ (fun _ _ => trivial) (far3 HM3.out (fun k hk => by omega))
set_option maxHeartbeats 2000000 in
set_option maxRecDepth 100000 in
theorem l1Sub_calls (qa qb : Rat) (A c B d A' c' B' d') (w : World) (ha : ratK.K w (repr qa) [.bool (repr qa).neg, .slice A (repr qa).num.length c, .slice B (repr qa).den.length d]) (hb : ratK.K w (repr qb) [.bool (repr qb).neg, .slice A' (repr qb).num.length c', .slice B' (repr qb).den.length d']) (hna : szR qa ≤ 137438953472) (hnb : szR qb ≤ 137438953472) :
    Calls Try.prog 95 #[.agg #[.bool (repr qa).neg, .slice A (repr qa).num.length c, .slice B (repr qa).den.length d], .agg #[.bool (repr qb).neg, .slice A' (repr qb).num.length c', .slice B' (repr qb).den.length d']] w (RatPost w (qa - qb)) := by
  have hu := Try.underlying26
  have hsa : szR qa ≤ 137438953472 := hna
  have hsb : szR qb ≤ 137438953472 := hnb
  obtain ⟨r, hr⟩ : ∃ r, r = repr qa := ⟨_, rfl⟩
  obtain ⟨r', hr'⟩ : ∃ r, r = repr qb := ⟨_, rfl⟩
  have HQA := Aside0.mk hr
  have HQB := Aside0.mk hr'
  rw [← hr] at ha ⊢
  rw [← hr'] at hb ⊢
  have HA := Aside0.mk ha
  have HB := Aside0.mk hb
  clear ha hb hr hr' hna hnb
  go_enter Try.func95, Try.ntmps95
  go_upto_region 1 with fail
  have f0 := ((Blk.new w 26 #[.bool r.neg, .slice A r.num.length c, .slice B r.den.length d]).alloc (.cells #[.bool r'.neg, .slice A' r'.num.length c', .slice B' r'.den.length d'] 26)).alloc (.cells #[.bool false, .slice none 0 0, .slice none 0 0] 26)
  have f1 := (Blk.new (w.alloc (.cells #[.bool r.neg, .slice A r.num.length c, .slice B r.den.length d] 26)) 26 #[.bool r'.neg, .slice A' r'.num.length c', .slice B' r'.den.length d']).alloc (.cells #[.bool false, .slice none 0 0, .slice none 0 0] 26)
  rw [show (w.alloc (.cells #[.bool r.neg, .slice A r.num.length c, .slice B r.den.length d] 26)).heap.size = w.heap.size + 1 from by simp] at f1
  have f2 := Blk.new ((w.alloc (.cells #[.bool r.neg, .slice A r.num.length c, .slice B r.den.length d] 26)).alloc (.cells #[.bool r'.neg, .slice A' r'.num.length c', .slice B' r'.den.length d'] 26)) 26 #[.bool false, .slice none 0 0, .slice none 0 0]
  rw [show ((w.alloc (.cells #[.bool r.neg, .slice A r.num.length c, .slice B r.den.length d] 26)).alloc (.cells #[.bool r'.neg, .slice A' r'.num.length c', .slice B' r'.den.length d'] 26)).heap.size = w.heap.size + 1 + 1 from by simp] at f2
  have fb := below_alloc (below_alloc (below_alloc (Below.refl w.heap.size w) (.cells #[.bool r.neg, .slice A r.num.length c, .slice B r.den.length d] 26)) (.cells #[.bool r'.neg, .slice A' r'.num.length c', .slice B' r'.den.length d'] 26)) (.cells #[.bool false, .slice none 0 0, .slice none 0 0] 26)
  generalize (((w.alloc (.cells #[.bool r.neg, .slice A r.num.length c, .slice B r.den.length d] 26)).alloc (.cells #[.bool r'.neg, .slice A' r'.num.length c', .slice B' r'.den.length d'] 26)).alloc (.cells #[.bool false, .slice none 0 0, .slice none 0 0] 26)) = w0 at f0 f1 f2 fb ⊢
  have HX0 := Aside0.mk f0
  have HY0 := Aside0.mk f1
  have HZ0 := Aside0.mk f2
  have HB0 := Aside0.mk fb
  clear f0 f1 f2 fb
  have CI : Aside0 (∀ w', Below w0.heap.size w0 w' → Calls Try.prog 73 #[.agg #[.bool r'.neg, .slice A' r'.num.length c', .slice B' r'.den.length d']] w' (RatPost w' (-qb))) := ⟨fun w' h => by have hk := ratK.K_below h (ratK.K_below HB0.out HB.out); rw [HQB.out] at hk ⊢; exact l1Neg_calls qb _ _ _ _ _ hk (by omega)⟩
  have CM : Aside0 (∀ w' Ai ci Bi di, Below w0.heap.size w0 w' → ratK.K w' (repr (-qb)) [.bool (repr (-qb)).neg, .slice Ai (repr (-qb)).num.length ci, .slice Bi (repr (-qb)).den.length di] → Calls Try.prog 74 #[.agg #[.bool r.neg, .slice A r.num.length c, .slice B r.den.length d], .agg #[.bool (repr (-qb)).neg, .slice Ai (repr (-qb)).num.length ci, .slice Bi (repr (-qb)).den.length di]] w' (RatPost w' (qa - qb))) := ⟨fun w' Ai ci Bi di h hi => by rw [Rat.sub_eq_add_neg]; have hk := ratK.K_below h (ratK.K_below HB0.out HA.out); rw [HQA.out] at hk ⊢; exact l1Add_calls qa (-qb) _ _ _ _ _ _ _ _ _ hk hi hsa (by rw [szR_neg]; omega)⟩
  clear hsa hsb
  obtain ⟨x0, x1, x2⟩ := box3 HX0.out
  obtain ⟨y0, y1, y2⟩ := box3 HY0.out
  have hBW := Below.refl w0.heap.size w0
  have H6 : Aside0 (∀ w', Below w0.heap.size w0 w' → w'.cell? ⟨w.heap.size, 0, none⟩ = some (.bool r.neg) ∧ w'.cell? ⟨w.heap.size, 1, none⟩ = some (.slice A r.num.length c) ∧ w'.cell? ⟨w.heap.size, 2, none⟩ = some (.slice B r.den.length d) ∧ w'.cell? ⟨w.heap.size + 1, 0, none⟩ = some (.bool r'.neg) ∧ w'.cell? ⟨w.heap.size + 1, 1, none⟩ = some (.slice A' r'.num.length c') ∧ w'.cell? ⟨w.heap.size + 1, 2, none⟩ = some (.slice B' r'.den.length d')) := ⟨fun w' h => ⟨pw_cell_below h x0, pw_cell_below h x1, pw_cell_below h x2, pw_cell_below h y0, pw_cell_below h y1, pw_cell_below h y2⟩⟩
  go_wp2_with fail
  go_region_held3 (fun w' => w'.cell? ⟨w.heap.size, 0, none⟩ = some (.bool r.neg) ∧ w'.cell? ⟨w.heap.size, 1, none⟩ = some (.slice A r.num.length c) ∧ w'.cell? ⟨w.heap.size, 2, none⟩ = some (.slice B r.den.length d) ∧ w'.cell? ⟨w.heap.size + 1, 0, none⟩ = some (.bool r'.neg) ∧ w'.cell? ⟨w.heap.size + 1, 1, none⟩ = some (.slice A' r'.num.length c') ∧ w'.cell? ⟨w.heap.size + 1, 2, none⟩ = some (.slice B' r'.den.length d'))
    ((first | exact H6.out _ (below_drew hBW) | exact H6.out _ hBi | exact H6.out _ hBz | exact store6 (H6.out _ hBz)))
    (first | (go_at_call 73; (with_reducible refine (CI.out _ (below_drew hBW)).mono ?_); rintro e wi ⟨Ai, ci, Bi, di, rfl, hoi, hbi⟩; have hBi := heldB2 (below_drew hBW) hbi) | (go_at_call 74; (with_reducible refine (CM.out _ _ _ _ _ hBi (ratK.K_of_M hoi)).mono ?_); rintro e wz ⟨Az, cz, Bz, dz, rfl, hMz, hbz⟩; have hBz := heldB2 hBi hbz; obtain ⟨⟨z0, z1, z2⟩, u0, u1, u2⟩ := bfacts (HZ0.out.below hBz HZ0.out.lt); have HMZ := heldM hMz hBi hBz))
  have hlt := HZ0.out.lt
  have hs2 := HB0.out.size
  clear x0 x1 x2 y0 y1 y2
  go_wp2
  refine bodyPost_ret (ret_rat Try.results95 _ _ (w.heap.size + 1 + 1) _ _ _ rfl (store3 (HZ0.out.below hBz HZ0.out.lt))) rfl ?_
  exact ⟨_, _, _, _, rfl, Kd.M_mono _ (fun _ _ => trivial) (far3 (ratK.M_lower HB0.out.size HMZ.1) (fun k hk => by omega)), below3 (HB0.out.trans (HMZ.2.mono HB0.out.size)) (by omega)⟩
set_option maxRecDepth 100000 in
theorem l1Sign_calls (s : Bool) (A B : Option Addr) (n c m d : Nat) (z : Int) (w : World) (hz : signI s n = z) :
    Calls Try.prog 94 #[.agg #[.bool s, .slice A n c, .slice B m d]] w fun e w' => e = .returned (.int .i64 z) ∧ Below w.heap.size w w' := by
  have hu := Try.underlying26
  unfold signI at hz
  rcases Nat.eq_zero_or_pos n with h0 | h0
  · rw [if_pos h0] at hz
    have hd : ((n : Int) == 0) = true := by rw [beq_iff_eq]; omega
    subst hz
    clear h0
    go_enter Try.func94, Try.ntmps94
    go_wp2
    go_ret
    exact ⟨rfl, below_alloc (Below.refl _ _) _⟩
  · rw [if_neg (by omega)] at hz
    have hd : ((n : Int) == 0) = false := by rw [beq_eq_false_iff_ne]; omega
    subst hz
    clear h0
    cases s
    all_goals
      go_enter Try.func94, Try.ntmps94
      go_wp2
      go_ret
      exact ⟨rfl, below_alloc (Below.refl _ _) _⟩
/-- The sign of a rational. -/
def sgnQ (q : Rat) : Int := signI (repr q).neg (repr q).num.length
set_option maxHeartbeats 2000000 in
set_option maxRecDepth 100000 in
theorem l1Cmp_calls (qa qb : Rat) (A c B d A' c' B' d') (w : World) (ha : ratK.K w (repr qa) [.bool (repr qa).neg, .slice A (repr qa).num.length c, .slice B (repr qa).den.length d]) (hb : ratK.K w (repr qb) [.bool (repr qb).neg, .slice A' (repr qb).num.length c', .slice B' (repr qb).den.length d']) (hna : szR qa ≤ 137438953472) (hnb : szR qb ≤ 137438953472) :
    Calls Try.prog 51 #[.agg #[.bool (repr qa).neg, .slice A (repr qa).num.length c, .slice B (repr qa).den.length d], .agg #[.bool (repr qb).neg, .slice A' (repr qb).num.length c', .slice B' (repr qb).den.length d']] w fun e w' => e = .returned (.int .i64 (sgnQ (qa - qb))) ∧ Below w.heap.size w w' := by
  obtain ⟨z, hz⟩ : ∃ z, sgnQ (qa - qb) = z := ⟨_, rfl⟩
  rw [hz]
  have HZQ := Aside0.mk hz
  clear hz
  have hu := Try.underlying26
  have hsa : szR qa ≤ 137438953472 := hna
  have hsb : szR qb ≤ 137438953472 := hnb
  obtain ⟨r, hr⟩ : ∃ r, r = repr qa := ⟨_, rfl⟩
  obtain ⟨r', hr'⟩ : ∃ r, r = repr qb := ⟨_, rfl⟩
  have HQA := Aside0.mk hr
  have HQB := Aside0.mk hr'
  rw [← hr] at ha ⊢
  rw [← hr'] at hb ⊢
  have HA := Aside0.mk ha
  have HB := Aside0.mk hb
  clear ha hb hr hr' hna hnb
  go_enter Try.func51, Try.ntmps51
  go_wp2_with fail
  have f0 := (Blk.new w 26 #[.bool r.neg, .slice A r.num.length c, .slice B r.den.length d]).alloc (.cells #[.bool r'.neg, .slice A' r'.num.length c', .slice B' r'.den.length d'] 26)
  have f1 := Blk.new (w.alloc (.cells #[.bool r.neg, .slice A r.num.length c, .slice B r.den.length d] 26)) 26 #[.bool r'.neg, .slice A' r'.num.length c', .slice B' r'.den.length d']
  rw [show (w.alloc (.cells #[.bool r.neg, .slice A r.num.length c, .slice B r.den.length d] 26)).heap.size = w.heap.size + 1 from by simp] at f1
  have fb := below_alloc (below_alloc (Below.refl w.heap.size w) (.cells #[.bool r.neg, .slice A r.num.length c, .slice B r.den.length d] 26)) (.cells #[.bool r'.neg, .slice A' r'.num.length c', .slice B' r'.den.length d'] 26)
  generalize ((w.alloc (.cells #[.bool r.neg, .slice A r.num.length c, .slice B r.den.length d] 26)).alloc (.cells #[.bool r'.neg, .slice A' r'.num.length c', .slice B' r'.den.length d'] 26)) = W at f0 f1 fb ⊢
  have HB0 := Aside0.mk fb
  clear f0 f1 fb
  rw [HQA.out, HQB.out]
  refine (l1Sub_calls qa qb _ _ _ _ _ _ _ _ _ (by have := ratK.K_below HB0.out HA.out; rw [HQA.out] at this; exact this) (by have := ratK.K_below HB0.out HB.out; rw [HQB.out] at this; exact this) hsa hsb).mono ?_
  rintro e w1 ⟨A3, c3, B3, d3, rfl, hM, hb⟩
  have HB1 := Aside0.mk (HB0.out.trans (hb.mono HB0.out.size))
  clear hM hb
  go_wp2_with fail
  refine (l1Sign_calls _ _ _ _ _ _ _ z _ HZQ.out).mono ?_
  rintro e w2 ⟨rfl, hb⟩
  have HB2 := Aside0.mk (HB1.out.trans (hb.mono HB1.out.size))
  clear hb
  go_wp2
  go_ret
  exact ⟨rfl, HB2.out⟩
/-- What RatAdd hands back. -/
def AddIs (r r' : Rt) (q : Rat) : Prop := ((okR r && okR r') = false ∧ q = 0) ∨ ∃ qa qb, r = repr qa ∧ r' = repr qb ∧ q = qa + qb
/-- What RatCmp hands back. -/
def CmpIs (r r' : Rt) (z : Int) : Prop := ((okR r && okR r') = false ∧ z = 2) ∨ ∃ qa qb, r = repr qa ∧ r' = repr qb ∧ z = sgnQ (qa - qb)
set_option maxHeartbeats 2000000 in
set_option maxRecDepth 100000 in
theorem scmp_bad1 (r r' : Rt) (A c B d A' c' B' d') (w : World) (ha : ratK.K w r [.bool r.neg, .slice A r.num.length c, .slice B r.den.length d]) (hb : ratK.K w r' [.bool r'.neg, .slice A' r'.num.length c', .slice B' r'.den.length d']) (hl : LimbsR r) (hl' : LimbsR r') (hs : r.num.length + r.den.length + (r'.num.length + r'.den.length) ≤ 1048576) (he : okR r = false) :
    Calls Try.prog 15 #[.agg #[.bool r.neg, .slice A r.num.length c, .slice B r.den.length d], .agg #[.bool r'.neg, .slice A' r'.num.length c', .slice B' r'.den.length d']] w fun e w' => e = .returned (.int .i64 2) ∧ Below w.heap.size w w' := by
  have HE := Aside0.mk he
  clear he
  have hu := Try.underlying26
  have HA := Aside0.mk ha
  have HB := Aside0.mk hb
  have HLA := Aside0.mk hl
  have HLB := Aside0.mk hl'
  clear ha hb hl hl'
  go_enter Try.func15, Try.ntmps15
  go_wp2_with fail
  have f0 := (Blk.new w 26 #[.bool r.neg, .slice A r.num.length c, .slice B r.den.length d]).alloc (.cells #[.bool r'.neg, .slice A' r'.num.length c', .slice B' r'.den.length d'] 26)
  have f1 := Blk.new (w.alloc (.cells #[.bool r.neg, .slice A r.num.length c, .slice B r.den.length d] 26)) 26 #[.bool r'.neg, .slice A' r'.num.length c', .slice B' r'.den.length d']
  rw [show (w.alloc (.cells #[.bool r.neg, .slice A r.num.length c, .slice B r.den.length d] 26)).heap.size = w.heap.size + 1 from by simp] at f1
  have fb := below_alloc (below_alloc (Below.refl w.heap.size w) (.cells #[.bool r.neg, .slice A r.num.length c, .slice B r.den.length d] 26)) (.cells #[.bool r'.neg, .slice A' r'.num.length c', .slice B' r'.den.length d'] 26)
  generalize ((w.alloc (.cells #[.bool r.neg, .slice A r.num.length c, .slice B r.den.length d] 26)).alloc (.cells #[.bool r'.neg, .slice A' r'.num.length c', .slice B' r'.den.length d'] 26)) = W at f0 f1 fb ⊢
  have HX0 := Aside0.mk f0
  have HY0 := Aside0.mk f1
  have HB0 := Aside0.mk fb
  clear f0 f1 fb
  refine (spec_ok r false _ (ratK.K_below HB0.out HA.out) HLA.out (by omega) HE.out).mono ?_
  rintro e w1 ⟨rfl, hb⟩
  have HB1 := Aside0.mk (HB0.out.trans (hb.mono HB0.out.size))
  have HX1 := Aside0.mk (HX0.out.below hb HX0.out.lt)
  have HY1 := Aside0.mk (HY0.out.below hb HY0.out.lt)
  clear hb HX0 HY0
  go_wp2
  go_ret
  exact ⟨rfl, HB1.out⟩
set_option maxHeartbeats 2000000 in
set_option maxRecDepth 100000 in
theorem scmp_bad2 (r r' : Rt) (A c B d A' c' B' d') (w : World) (ha : ratK.K w r [.bool r.neg, .slice A r.num.length c, .slice B r.den.length d]) (hb : ratK.K w r' [.bool r'.neg, .slice A' r'.num.length c', .slice B' r'.den.length d']) (hl : LimbsR r) (hl' : LimbsR r') (hs : r.num.length + r.den.length + (r'.num.length + r'.den.length) ≤ 1048576) (he : okR r = true) (he' : okR r' = false) :
    Calls Try.prog 15 #[.agg #[.bool r.neg, .slice A r.num.length c, .slice B r.den.length d], .agg #[.bool r'.neg, .slice A' r'.num.length c', .slice B' r'.den.length d']] w fun e w' => e = .returned (.int .i64 2) ∧ Below w.heap.size w w' := by
  have HE := Aside0.mk he
  have HE' := Aside0.mk he'
  clear he he'
  have hu := Try.underlying26
  have HA := Aside0.mk ha
  have HB := Aside0.mk hb
  have HLA := Aside0.mk hl
  have HLB := Aside0.mk hl'
  clear ha hb hl hl'
  go_enter Try.func15, Try.ntmps15
  go_wp2_with fail
  have f0 := (Blk.new w 26 #[.bool r.neg, .slice A r.num.length c, .slice B r.den.length d]).alloc (.cells #[.bool r'.neg, .slice A' r'.num.length c', .slice B' r'.den.length d'] 26)
  have f1 := Blk.new (w.alloc (.cells #[.bool r.neg, .slice A r.num.length c, .slice B r.den.length d] 26)) 26 #[.bool r'.neg, .slice A' r'.num.length c', .slice B' r'.den.length d']
  rw [show (w.alloc (.cells #[.bool r.neg, .slice A r.num.length c, .slice B r.den.length d] 26)).heap.size = w.heap.size + 1 from by simp] at f1
  have fb := below_alloc (below_alloc (Below.refl w.heap.size w) (.cells #[.bool r.neg, .slice A r.num.length c, .slice B r.den.length d] 26)) (.cells #[.bool r'.neg, .slice A' r'.num.length c', .slice B' r'.den.length d'] 26)
  generalize ((w.alloc (.cells #[.bool r.neg, .slice A r.num.length c, .slice B r.den.length d] 26)).alloc (.cells #[.bool r'.neg, .slice A' r'.num.length c', .slice B' r'.den.length d'] 26)) = W at f0 f1 fb ⊢
  have HX0 := Aside0.mk f0
  have HY0 := Aside0.mk f1
  have HB0 := Aside0.mk fb
  clear f0 f1 fb
  refine (spec_ok r true _ (ratK.K_below HB0.out HA.out) HLA.out (by omega) HE.out).mono ?_
  rintro e w1 ⟨rfl, hb⟩
  have HB1 := Aside0.mk (HB0.out.trans (hb.mono HB0.out.size))
  have HX1 := Aside0.mk (HX0.out.below hb HX0.out.lt)
  have HY1 := Aside0.mk (HY0.out.below hb HY0.out.lt)
  clear hb HX0 HY0
  obtain ⟨x0, x1, x2⟩ := box3 HX1.out
  obtain ⟨y0, y1, y2⟩ := box3 HY1.out
  go_wp2_with fail
  clear x0 x1 x2 y0 y1 y2
  refine (spec_ok r' false _ (ratK.K_below HB1.out HB.out) HLB.out (by omega) HE'.out).mono ?_
  rintro e w2 ⟨rfl, hb⟩
  have HB2 := Aside0.mk (HB1.out.trans (hb.mono HB1.out.size))
  have HX2 := Aside0.mk (HX1.out.below hb HX1.out.lt)
  have HY2 := Aside0.mk (HY1.out.below hb HY1.out.lt)
  clear hb HX1 HY1
  go_wp2
  go_ret
  exact ⟨rfl, HB2.out⟩
set_option maxHeartbeats 2000000 in
set_option maxRecDepth 100000 in
theorem scmp_good (qa qb : Rat) (r r' : Rt) (hqa : r = repr qa) (hqb : r' = repr qb) (A c B d A' c' B' d') (w : World) (ha : ratK.K w r [.bool r.neg, .slice A r.num.length c, .slice B r.den.length d]) (hb : ratK.K w r' [.bool r'.neg, .slice A' r'.num.length c', .slice B' r'.den.length d']) (hl : LimbsR r) (hl' : LimbsR r') (hs : r.num.length + r.den.length + (r'.num.length + r'.den.length) ≤ 1048576)  :
    Calls Try.prog 15 #[.agg #[.bool r.neg, .slice A r.num.length c, .slice B r.den.length d], .agg #[.bool r'.neg, .slice A' r'.num.length c', .slice B' r'.den.length d']] w fun e w' => e = .returned (.int .i64 (sgnQ (qa - qb))) ∧ Below w.heap.size w w' := by
  obtain ⟨z, hz⟩ : ∃ z, sgnQ (qa - qb) = z := ⟨_, rfl⟩
  rw [hz]
  have HZQ := Aside0.mk hz
  clear hz
  have HQA := Aside0.mk hqa
  have HQB := Aside0.mk hqb
  have HE := Aside0.mk (show okR r = true by rw [hqa]; exact okR_repr qa)
  have HE' := Aside0.mk (show okR r' = true by rw [hqb]; exact okR_repr qb)
  have hsa : szR qa ≤ 1048576 := by unfold szR; rw [← hqa]; omega
  have hsb : szR qb ≤ 1048576 := by unfold szR; rw [← hqb]; omega
  clear hqa hqb
  have hu := Try.underlying26
  have HA := Aside0.mk ha
  have HB := Aside0.mk hb
  have HLA := Aside0.mk hl
  have HLB := Aside0.mk hl'
  clear ha hb hl hl'
  go_enter Try.func15, Try.ntmps15
  go_wp2_with fail
  have f0 := (Blk.new w 26 #[.bool r.neg, .slice A r.num.length c, .slice B r.den.length d]).alloc (.cells #[.bool r'.neg, .slice A' r'.num.length c', .slice B' r'.den.length d'] 26)
  have f1 := Blk.new (w.alloc (.cells #[.bool r.neg, .slice A r.num.length c, .slice B r.den.length d] 26)) 26 #[.bool r'.neg, .slice A' r'.num.length c', .slice B' r'.den.length d']
  rw [show (w.alloc (.cells #[.bool r.neg, .slice A r.num.length c, .slice B r.den.length d] 26)).heap.size = w.heap.size + 1 from by simp] at f1
  have fb := below_alloc (below_alloc (Below.refl w.heap.size w) (.cells #[.bool r.neg, .slice A r.num.length c, .slice B r.den.length d] 26)) (.cells #[.bool r'.neg, .slice A' r'.num.length c', .slice B' r'.den.length d'] 26)
  generalize ((w.alloc (.cells #[.bool r.neg, .slice A r.num.length c, .slice B r.den.length d] 26)).alloc (.cells #[.bool r'.neg, .slice A' r'.num.length c', .slice B' r'.den.length d'] 26)) = W at f0 f1 fb ⊢
  have HX0 := Aside0.mk f0
  have HY0 := Aside0.mk f1
  have HB0 := Aside0.mk fb
  clear f0 f1 fb
  refine (spec_ok r true _ (ratK.K_below HB0.out HA.out) HLA.out (by omega) HE.out).mono ?_
  rintro e w1 ⟨rfl, hb⟩
  have HB1 := Aside0.mk (HB0.out.trans (hb.mono HB0.out.size))
  have HX1 := Aside0.mk (HX0.out.below hb HX0.out.lt)
  have HY1 := Aside0.mk (HY0.out.below hb HY0.out.lt)
  clear hb HX0 HY0
  obtain ⟨x0, x1, x2⟩ := box3 HX1.out
  obtain ⟨y0, y1, y2⟩ := box3 HY1.out
  go_wp2_with fail
  clear x0 x1 x2 y0 y1 y2
  refine (spec_ok r' true _ (ratK.K_below HB1.out HB.out) HLB.out (by omega) HE'.out).mono ?_
  rintro e w2 ⟨rfl, hb⟩
  have HB2 := Aside0.mk (HB1.out.trans (hb.mono HB1.out.size))
  have HX2 := Aside0.mk (HX1.out.below hb HX1.out.lt)
  have HY2 := Aside0.mk (HY1.out.below hb HY1.out.lt)
  clear hb HX1 HY1
  obtain ⟨x0, x1, x2⟩ := box3 HX2.out
  obtain ⟨y0, y1, y2⟩ := box3 HY2.out
  go_wp2_with fail
  rw [HQA.out, HQB.out]
  refine (l1Cmp_calls qa qb _ _ _ _ _ _ _ _ _ (by have := ratK.K_below HB2.out HA.out; rw [HQA.out] at this; exact this) (by have := ratK.K_below HB2.out HB.out; rw [HQB.out] at this; exact this) (by omega) (by omega)).mono ?_
  rintro e w3 ⟨rfl, hb⟩
  have HB3 := Aside0.mk (HB2.out.trans (hb.mono HB2.out.size))
  clear hb x0 x1 x2 y0 y1 y2
  rw [HZQ.out]
  go_wp2
  go_ret
  exact ⟨rfl, HB3.out⟩
theorem spec_RatCmp_K {s s' : Bool} {A A' B B' : Option Addr} {n c m d n' c' m' d' : Nat} (r r' : Rt) (z : Int) (w : World) (ha : ratK.K w r [.bool s, .slice A n c, .slice B m d]) (hb : ratK.K w r' [.bool s', .slice A' n' c', .slice B' m' d']) (hl : LimbsR r) (hl' : LimbsR r') (hs : r.num.length + r.den.length + (r'.num.length + r'.den.length) ≤ 1048576) (hq : CmpIs r r' z) :
    Calls Try.prog 15 #[.agg #[.bool s, .slice A n c, .slice B m d], .agg #[.bool s', .slice A' n' c', .slice B' m' d']] w fun e w' => e = .returned (.int .i64 z) ∧ Below w.heap.size w w' := by
  obtain ⟨A1, c1, B1, d1, e, _⟩ := ratK_form ha
  obtain ⟨A2, c2, B2, d2, e', _⟩ := ratK_form hb
  simp only [List.cons.injEq, Value.slice.injEq, Value.bool.injEq, and_true] at e e'
  obtain ⟨rfl, ⟨rfl, rfl, rfl⟩, rfl, rfl, rfl⟩ := e
  obtain ⟨rfl, ⟨rfl, rfl, rfl⟩, rfl, rfl, rfl⟩ := e'
  rcases hq with ⟨h, rfl⟩ | ⟨qa, qb, h1, h2, rfl⟩
  · cases e1 : okR r with
    | false => exact scmp_bad1 r r' _ _ _ _ _ _ _ _ w ha hb hl hl' hs e1
    | true =>
      rw [e1, Bool.true_and] at h
      exact scmp_bad2 r r' _ _ _ _ _ _ _ _ w ha hb hl hl' hs e1 h
  · exact scmp_good qa qb r r' h1 h2 _ _ _ _ _ _ _ _ w ha hb hl hl' hs
end Go.Proofs.Ytlpckbleokoiiaa.Hand
