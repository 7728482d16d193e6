/- The document's l1Copy and l1Inv. Conditions: the rational can be read and has at most 2^40 limbs (l1Inv: it is a valid rational, not zero). -/
import Derived.Test.YtlpckbleokoiiaaZHsr5
set_option linter.unusedVariables false
set_option linter.unusedSimpArgs false
namespace Go.Proofs.Ytlpckbleokoiiaa.Hand
open Go.RowKit Go.Proofs.YtlpckbleokoiiaaW.PrintWords Go.Proofs.YtlpckbleokoiiaaW.PrintLast Go.Proofs.YtlpckbleokoiiaaW.PrintMore
/-- A rational of the call's own is handed back: its fields as they are. -/
def RtPost (w : World) (r : Rt) (e : Ending) (w' : World) : Prop := ∃ A c B d, e = .returned (.agg #[.bool r.neg, .slice A r.num.length c, .slice B r.den.length d]) ∧ ratK.M w' w.heap.size (fun _ => True) r [.bool r.neg, .slice A r.num.length c, .slice B r.den.length d] ∧ Below w.heap.size w w'
set_option maxHeartbeats 2000000 in
set_option maxRecDepth 100000 in
theorem l1Copy_K {s : Bool} {A B : Option Addr} {n c m d : Nat} (r : Rt) (w : World) (hr : ratK.K w r [.bool s, .slice A n c, .slice B m d]) (hn : r.num.length + r.den.length ≤ 1099511627776) :
    Calls Try.prog 72 #[.agg #[.bool s, .slice A n c, .slice B m d]] w (RtPost w r) := by
  have hu := Try.underlying26
  obtain ⟨A2, c2, B2, d2, e, k1, k2, k3, k4⟩ := ratK_form hr
  simp only [List.cons.injEq, Value.slice.injEq, Value.bool.injEq, and_true] at e
  obtain ⟨rfl, ⟨rfl, rfl, rfl⟩, rfl, rfl, rfl⟩ := e
  obtain ⟨s, l, l'⟩ := r
  have H1 := Aside0.mk k2
  have H2 := Aside0.mk k4
  simp only at H1 H2 hn ⊢
  clear hr k1 k2 k3 k4
  go_enter Try.func72, Try.ntmps72
  go_upto_region 1 with fail
  have f0 := (Blk.new w 26 #[.bool s, .slice A l.length c, .slice B l'.length d]).alloc (.cells #[.bool false, .slice none 0 0, .slice none 0 0] 26)
  have f1 := Blk.new (w.alloc (.cells #[.bool s, .slice A l.length c, .slice B l'.length d] 26)) 26 #[.bool false, .slice none 0 0, .slice none 0 0]
  rw [show (w.alloc (.cells #[.bool s, .slice A l.length c, .slice B l'.length d] 26)).heap.size = w.heap.size + 1 from by simp] at f1
  have fb := below_alloc (below_alloc (Below.refl w.heap.size w) (.cells #[.bool s, .slice A l.length c, .slice B l'.length d] 26)) (.cells #[.bool false, .slice none 0 0, .slice none 0 0] 26)
  generalize ((w.alloc (.cells #[.bool s, .slice A l.length c, .slice B l'.length d] 26)).alloc (.cells #[.bool false, .slice none 0 0, .slice none 0 0] 26)) = W at f0 f1 fb ⊢
  have HX := Aside0.mk f0
  have HZ := Aside0.mk f1
  have HB0 := Aside0.mk fb
  clear f0 f1 fb
  have HN1 := Aside0.mk (Kd.C_below H1.out HB0.out)
  go_upto_region 2 with fail
  have hO := Aside0.mk (show (Kd.int .u32).R 73 (W.alloc (.cells #[] 73)) W.heap.size (fun _ => True) (.slice (some ⟨W.heap.size, 0, none⟩) 0 0) [] from
    Kd.R_of_own (own_lit W W.heap.size 73 .u32 [] (Nat.le_refl _) (by simp)) (fun k hk => trivial))
  have hWb := Aside0.mk (below_alloc (Below.refl W.heap.size W) (.cells #[] 73))
  generalize W.alloc (.cells #[] 73) = WA at hO hWb ⊢
  obtain ⟨x0, x1, x2⟩ := box3 (HX.out.below hWb.out HX.out.lt)
  go_upto_region 3 with ((at_builtin; refine Kd.R_append_rows (Kd.int .u32) (w0 := W) W.heap.size rfl (.tmp 6) (.tmp 8) 24 73 (.int .u32 0) 4 rfl Try.underlying24 infoU rfl (by decide) (by omega) _ [] l A l.length c (fun _ => True) (fun _ => False) rfl rfl hO.out (Kd.C_below HN1.out hWb.out) (fun _ _ h => h) (fun _ h => h.elim) (fun _ _ => trivial) hWb.out hWb.out.size (by simp; omega) ?_; intro v1 w1 ho hb hg hat; have HO := Aside0.mk ho; have HB := Aside0.mk hb; clear ho hb hg hat))
  obtain ⟨A1, c1, rfl⟩ := Kd.R_slice HO.out
  have HX1 := Aside0.mk (HX.out.below HB.out HX.out.lt)
  have HZ1 := Aside0.mk (HZ.out.below HB.out HZ.out.lt)
  have HB1 := Aside0.mk (HB0.out.trans (HB.out.mono HB0.out.size))
  have HS1 := HB.out.size
  have HO1 := HO
  have HN2 := Aside0.mk (Kd.C_below H2.out HB1.out)
  clear HO HB hO hWb x0 x1 x2
  rw [List.nil_append] at HO1 ⊢
  go_upto_region 4 with fail
  have hO := Aside0.mk (show (Kd.int .u32).R 73 (w1.alloc (.cells #[] 73)) w1.heap.size (fun _ => True) (.slice (some ⟨w1.heap.size, 0, none⟩) 0 0) [] from
    Kd.R_of_own (own_lit w1 w1.heap.size 73 .u32 [] (Nat.le_refl _) (by simp)) (fun k hk => trivial))
  have hWb := Aside0.mk (below_alloc (Below.refl w1.heap.size w1) (.cells #[] 73))
  generalize w1.alloc (.cells #[] 73) = WB at hO hWb ⊢
  obtain ⟨x0, x1, x2⟩ := box3 (HX1.out.below hWb.out HX1.out.lt)
  go_upto_region 5 with ((at_builtin; refine Kd.R_append_rows (Kd.int .u32) (w0 := w1) w1.heap.size rfl (.tmp 11) (.tmp 13) 24 73 (.int .u32 0) 4 rfl Try.underlying24 infoU rfl (by decide) (by omega) _ [] l' B l'.length d (fun _ => True) (fun _ => False) rfl rfl hO.out (Kd.C_below HN2.out hWb.out) (fun _ _ h => h) (fun _ h => h.elim) (fun _ _ => trivial) hWb.out hWb.out.size (by simp; omega) ?_; intro v2 w2 ho hb hg hat; have HO := Aside0.mk ho; have HB := Aside0.mk hb; clear ho hb hg hat))
  obtain ⟨B1, d1, rfl⟩ := Kd.R_slice HO.out
  have hM := two_rows (base := w.heap.size) s HO1.out HO.out HB.out (Nat.le_refl _) HB0.out.size HB1.out.size
  have HX2 := Aside0.mk (HX1.out.below HB.out HX1.out.lt)
  have HZ2 := Aside0.mk (HZ1.out.below HB.out HZ1.out.lt)
  have HB2 := Aside0.mk (HB1.out.trans (HB.out.mono HB1.out.size))
  have HM := Aside0.mk hM
  clear x0 x1 x2 hM
  rw [List.nil_append] at HM ⊢
  obtain ⟨⟨x0, x1, x2⟩, _⟩ := bfacts HX2.out
  obtain ⟨⟨z0, z1, z2⟩, q0, q1, q2⟩ := bfacts HZ2.out
  go_wp2
  refine bodyPost_ret (ret_rat Try.results72 _ _ (w.heap.size + 1) _ _ _ rfl (store3 HZ2.out)) rfl ?_
  have hl := HZ.out.lt
  exact ⟨_, _, _, _, rfl, Kd.M_mono _ (fun _ _ => trivial) (far3 HM.out (fun k hk => by rcases hk with hk | hk <;> omega)), below3 HB2.out (by omega)⟩
/-- Numerator and denominator change places. -/
theorem ratM_swap {w : World} {base : Nat} {ok : Nat → Prop} {r : Rt} {v v' : Value} {s : Bool} (h : ratK.M w base ok r [.bool s, v, v']) : ratK.M w base ok ⟨r.neg, r.den, r.num⟩ [.bool s, v', v] := by
  obtain ⟨P, rfl, h1, h2⟩ := ratK_rows h
  exact ratK_made2 (natK_made h2) (natK_made h1) (fun k hk => hk.1) (fun k hk => hk.1) (fun k hk hk' => hk.2 hk'.2)
set_option maxHeartbeats 2000000 in
set_option maxRecDepth 100000 in
theorem l1Inv_calls (q : Rat) (A c B d) (w : World) (hr : ratK.K w (repr q) [.bool (repr q).neg, .slice A (repr q).num.length c, .slice B (repr q).den.length d]) (hn : szR q ≤ 1048576) (hq : q ≠ 0) :
    Calls Try.prog 75 #[.agg #[.bool (repr q).neg, .slice A (repr q).num.length c, .slice B (repr q).den.length d]] w (RatPost w q⁻¹) := by
  have hu := Try.underlying26
  have HQ := Aside0.mk (repr_inv hq)
  unfold szR at hn
  obtain ⟨r, hr'⟩ : ∃ r, r = repr q := ⟨_, rfl⟩
  rw [← hr'] at hr hn HQ ⊢
  have HR := Aside0.mk hr
  clear hr hr'
  go_enter Try.func75, Try.ntmps75
  go_wp2_with fail
  have f0 := (Blk.new w 26 #[.bool r.neg, .slice A r.num.length c, .slice B r.den.length d]).alloc (.cells #[.bool false, .slice none 0 0, .slice none 0 0] 26)
  have f1 := Blk.new (w.alloc (.cells #[.bool r.neg, .slice A r.num.length c, .slice B r.den.length d] 26)) 26 #[.bool false, .slice none 0 0, .slice none 0 0]
  rw [show (w.alloc (.cells #[.bool r.neg, .slice A r.num.length c, .slice B r.den.length d] 26)).heap.size = w.heap.size + 1 from by simp] at f1
  have fb := below_alloc (below_alloc (Below.refl w.heap.size w) (.cells #[.bool r.neg, .slice A r.num.length c, .slice B r.den.length d] 26)) (.cells #[.bool false, .slice none 0 0, .slice none 0 0] 26)
  generalize ((w.alloc (.cells #[.bool r.neg, .slice A r.num.length c, .slice B r.den.length d] 26)).alloc (.cells #[.bool false, .slice none 0 0, .slice none 0 0] 26)) = W at f0 f1 fb ⊢
  have HZ := Aside0.mk f1
  have HB0 := Aside0.mk fb
  clear f0 f1 fb
  refine (l1Copy_K r _ (ratK.K_below HB0.out HR.out) (by omega)).mono ?_
  rintro e w1 ⟨A1, c1, B1, d1, rfl, hM, hb⟩
  have HZ1 := Aside0.mk (HZ.out.below hb HZ.out.lt)
  have HB1 := Aside0.mk (HB0.out.trans (hb.mono HB0.out.size))
  have HM := Aside0.mk hM
  have hs1 := hb.size
  clear hM hb
  go_upto_region 2 with fail
  have HC := Aside0.mk (Blk.new w1 26 #[.bool r.neg, .slice A1 r.num.length c1, .slice B1 r.den.length d1])
  have hb := below_alloc (Below.refl w1.heap.size w1) (.cells #[.bool r.neg, .slice A1 r.num.length c1, .slice B1 r.den.length d1] 26)
  generalize w1.alloc (.cells #[.bool r.neg, .slice A1 r.num.length c1, .slice B1 r.den.length d1] 26) = w2 at HC hb ⊢
  have HZ2 := Aside0.mk (HZ1.out.below hb HZ1.out.lt)
  have HB2 := Aside0.mk (HB1.out.trans (hb.mono HB1.out.size))
  have HM2 := Aside0.mk (Kd.M_below HM.out hb)
  clear hb
  obtain ⟨c0, c1', c2⟩ := box3 HC.out
  obtain ⟨⟨z0, z1, z2⟩, q0, q1, q2⟩ := bfacts HZ2.out
  have hlt := HZ.out.lt
  go_wp2
  refine bodyPost_ret (ret_rat Try.results75 _ _ (w.heap.size + 1) _ _ _ rfl (store3 HZ2.out)) rfl ?_
  refine rat_post2 HQ.out ?_ (below3 HB2.out (by omega))
  refine Kd.M_mono _ (fun _ _ => trivial) (far3 (ok := fun k => W.heap.size ≤ k) (ratM_swap (ratK.M_lower HB0.out.size (Kd.M_mono _ (fun k hk => hk.2.1) (ratK.M_bound HM2.out)))) (fun k hk => by omega))
end Go.Proofs.Ytlpckbleokoiiaa.Hand
