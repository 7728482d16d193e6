/- The method norm of rationals where the denominator is not one, and as a whole. Conditions: as before. -/
import Derived.Test.YtlpckbleokoiiaaZHrat4
set_option linter.unusedVariables false
set_option linter.unusedSimpArgs false
namespace Go.Proofs.Ytlpckbleokoiiaa.Hand
open Go.RowKit Go.Proofs.YtlpckbleokoiiaaW.PrintWords Go.Proofs.YtlpckbleokoiiaaW.PrintLast Go.Proofs.YtlpckbleokoiiaaW.PrintMore
set_option maxHeartbeats 4000000 in
set_option maxRecDepth 100000 in
theorem norm_prime (g : Nat) (s : Bool) (v v' : Value) (l l' : List Int) (base : Nat) (ok : Nat → Prop) (w : World) (hb : Blk w g 26 #[.bool s, v, v']) (hM : ratK.M w base ok ⟨s, l, l'⟩ [.bool s, v, v']) (hB : base ≤ w.heap.size)
    (hl : Limbs l) (hl' : Limbs l') (hp' : Plain l') (hz' : val l' ≠ 0) (hn : l.length ≤ 1099511627776) (hn' : l'.length ≤ 1099511627776) (hv : val l ≠ 0) (hone : val l' ≠ 1) (hgc : Nat.gcd (val l) (val l') = 1) :
    Calls Try.prog 89 #[.pointer (some ⟨g, 0, none⟩)] w (NormPost base ok w (mkRat (sgn s (val l)) (val l'))) := by
  have hu := Try.underlying26
  obtain ⟨P, _, hr, hr'⟩ := ratK_rows hM
  simp only at hr hr'
  obtain ⟨A, c, rfl⟩ := Kd.R_slice hr
  obtain ⟨B, d, rfl⟩ := Kd.R_slice hr'
  have HR := Aside0.mk (Kd.R_mono (Kd.R_bound hr) (ok' := fun k => (ok k ∧ P k) ∧ k < w.heap.size) (fun k hk => ⟨hk.1, hk.2.2.1⟩))
  have HR' := Aside0.mk (Kd.R_mono (Kd.R_bound hr') (ok' := fun k => (ok k ∧ ¬ P k) ∧ k < w.heap.size) (fun k hk => ⟨hk.1, hk.2.2.1⟩))
  have HB := Aside0.mk hB
  have HX := Aside0.mk hb
  obtain ⟨x0, x1, x2⟩ := box3 hb
  have hgl := hb.lt
  have HTR := Aside0.mk (trimL_eq hl)
  have htn : trimN l ≠ 0 := by rw [trimN_eq]; exact fun h => hv ((trimL_nil_iff hl).mp h)
  have htz : ((trimN l : Int) == 0) = false := by rw [beq_eq_false_iff_ne]; omega
  have HTN := Aside0.mk htn
  clear htn
  clear hr hr' hM hB hb
  go_enter Try.func89, Try.ntmps89
  go_wp2
  go_region
  go_wp2_with fail
  have hs : (w.alloc (.cells #[.bool false, .slice none 0 0, .slice none 0 0] 26)).heap.size = w.heap.size + 1 := by simp
  have f0 := show Blk ((w.alloc (.cells #[.bool false, .slice none 0 0, .slice none 0 0] 26)).alloc (.cells #[.slice A l.length c] 74)).drew w.heap.size 26 #[.bool false, .slice none 0 0, .slice none 0 0] from ((Blk.new w 26 #[.bool false, .slice none 0 0, .slice none 0 0]).alloc (.cells #[.slice A l.length c] 74)).drew
  have f1 := show Blk ((w.alloc (.cells #[.bool false, .slice none 0 0, .slice none 0 0] 26)).alloc (.cells #[.slice A l.length c] 74)).drew (w.alloc (.cells #[.bool false, .slice none 0 0, .slice none 0 0] 26)).heap.size 74 #[.slice A l.length c] from (Blk.new (w.alloc (.cells #[.bool false, .slice none 0 0, .slice none 0 0] 26)) 74 #[.slice A l.length c]).drew
  have f2 := show Below w.heap.size w ((w.alloc (.cells #[.bool false, .slice none 0 0, .slice none 0 0] 26)).alloc (.cells #[.slice A l.length c] 74)).drew from below_drew (below_alloc (below_alloc (Below.refl _ _) _) _)
  rw [hs] at f1
  generalize ((w.alloc (.cells #[.bool false, .slice none 0 0, .slice none 0 0] 26)).alloc (.cells #[.slice A l.length c] 74)).drew = W at f0 f1 f2 ⊢
  have HF0 := Aside0.mk f0
  have HF1 := Aside0.mk f1
  have HF2 := Aside0.mk f2
  clear hs f0 f1 f2 x0 x1 x2
  refine (trim_calls (w.heap.size + 1) A c l _ HF1.out (Kd.C_below (Kd.R_reads' HR.out).2.2 HF2.out) (Kd.R_reads' HR.out).2.1).mono ?_
  rintro e w1 ⟨rfl, hg, hx⟩
  have HG1 := Aside0.mk (pw_below_grown HF2.out _ HF2.out.size hg (fun k hk => by injection hk with hk; omega))
  have HF01 := Aside0.mk (HF0.out.grown hg (by intro h; injection h with h; omega))
  have HX1 := Aside0.mk ((HX.out.below HF2.out hgl).grown hg (by intro h; injection h with h; omega))
  have HN1 := Aside0.mk hx
  clear hg hx HF0 HF1 HF2
  go_wp2_with fail
  refine (one_calls _ _ l' false _ (Kd.C_below (Kd.R_reads' HR'.out).2.2 HG1.out) hl' hp' (decide_eq_false hone)).mono ?_
  rintro e w2 ⟨rfl, hb⟩
  have HG2 := Aside0.mk (HG1.out.trans (hb.mono HG1.out.size))
  have HF02 := Aside0.mk (HF01.out.below hb HF01.out.lt)
  have HX2 := Aside0.mk (HX1.out.below hb HX1.out.lt)
  have HN2 := Aside0.mk (HN1.out.below hb HN1.out.lt)
  have S2 := hb.size
  clear HG1 HF01 HX1 HN1
  clear hb
  have z0 : w2.cell? ⟨w.heap.size + 1, 0, none⟩ = some (.slice A (trimN l) c) := HN2.out.cell 0
  go_wp2_with fail
  have hm := gcd_calls A B c d (trimL l) l' w2 (Kd.C_below (C_trimL (Kd.R_reads' HR.out).2.2) HG2.out) (Kd.C_below (Kd.R_reads' HR'.out).2.2 HG2.out) (limbs_trimL hl) hl' (plain_trimL _) hp' (by rw [trimL_length]; exact Nat.le_trans (trimN_le l) hn) hn'
  rw [trimL_length, val_trimL] at hm
  refine hm.mono ?_
  rintro e w3 ⟨v, rfl, ho, hb⟩
  obtain ⟨A3, c3, rfl⟩ := Kd.R_slice ho
  have HQ3 := Aside0.mk (Kd.R_reads' ho).2.2
  have HL3 := Aside0.mk (show (lim (Nat.gcd (val l) (val l'))).length ≤ 1099511627776 from Nat.le_trans (lim_length_le (Nat.lt_of_le_of_lt (Nat.gcd_le_right _ (Nat.pos_of_ne_zero hz')) (val_lt hl'))) hn')
  have HG3 := Aside0.mk (HG2.out.trans (hb.mono HG2.out.size))
  have HF03 := Aside0.mk (HF02.out.below hb HF02.out.lt)
  have HX3 := Aside0.mk (HX2.out.below hb HX2.out.lt)
  have HN3 := Aside0.mk (HN2.out.below hb HN2.out.lt)
  have S3 := hb.size
  clear HG2 HF02 HX2 HN2
  clear hb ho hm z0
  obtain ⟨gl, hgl2⟩ : ∃ gl, gl = lim (Nat.gcd (val l) (val l')) := ⟨_, rfl⟩
  rw [← hgl2] at HQ3 HL3 ⊢
  have HGL := Aside0.mk hgl2
  clear hgl2
  go_wp2_with fail
  refine (one_calls _ _ gl true _ HQ3.out (by rw [HGL.out]; exact limbs_lim _) (by rw [HGL.out]; exact plain_lim _) (by rw [HGL.out, val_lim]; exact decide_eq_true hgc)).mono ?_
  rintro e w4 ⟨rfl, hb⟩
  have HQ4 := Aside0.mk (Kd.C_below HQ3.out hb)
  have HG4 := Aside0.mk (HG3.out.trans (hb.mono HG3.out.size))
  have HF04 := Aside0.mk (HF03.out.below hb HF03.out.lt)
  have HX4 := Aside0.mk (HX3.out.below hb HX3.out.lt)
  have HN4 := Aside0.mk (HN3.out.below hb HN3.out.lt)
  have S4 := hb.size
  clear HG3 HF03 HX3 HN3
  clear hb
  obtain ⟨x0, x1, x2⟩ := box3 HX4.out
  obtain ⟨y0, y1, y2⟩ := box3 HF04.out
  have z0 := HN4.out.cell 0
  have f0 := HF04.out.frozen 0
  have f1 := HF04.out.frozen 1
  have f2 := HF04.out.frozen 2
  have f3 := HN4.out.frozen 0
  go_wp2
  go_region
  go_wp2
  refine bodyPost_ret (ret_rat Try.results89 _ _ w.heap.size (.bool s) (.slice A (trimN l) c) (.slice B l'.length d) rfl (store3 HF04.out).drew) rfl ?_
  have hq : repr (mkRat (sgn s (val l)) (val l')) = ⟨s, trimL l, l'⟩ := by
    rw [repr_norm s hv hz', hgc, Nat.div_one, Nat.div_one, ← HTR.out, lim_val hl' hp']
  have hR := R_far3 (x := .bool s) (y := .slice A (trimN l) c) (z := .slice B l'.length d) (Kd.R_take (Kd.R_below HR.out HG4.out) (trimN_le l)) (g := w.heap.size) (fun i hi => by have := hi.2; omega)
  have hR' := R_far3 (x := .bool s) (y := .slice A (trimN l) c) (z := .slice B l'.length d) (Kd.R_below HR'.out HG4.out) (g := w.heap.size) (fun i hi => by have := hi.2; omega)
  exact norm_post hq (trimL_length l) rfl (rows_rat s (Kd.R_drew hR) (Kd.R_drew hR') (fun k hk => .inl hk.1.1) (fun k hk => .inl hk.1.1) (fun k h1 h2 => h2.1.2 h1.1.2)) (below_drew (below3 HG4.out (Nat.le_refl _)))
set_option maxHeartbeats 4000000 in
set_option maxRecDepth 100000 in
theorem norm_div (g : Nat) (s : Bool) (v v' : Value) (l l' : List Int) (base : Nat) (ok : Nat → Prop) (w : World) (hb : Blk w g 26 #[.bool s, v, v']) (hM : ratK.M w base ok ⟨s, l, l'⟩ [.bool s, v, v']) (hB : base ≤ w.heap.size)
    (hl : Limbs l) (hl' : Limbs l') (hp' : Plain l') (hz' : val l' ≠ 0) (hn : l.length ≤ 1099511627776) (hn' : l'.length ≤ 1099511627776) (hv : val l ≠ 0) (hone : val l' ≠ 1) (hgc : Nat.gcd (val l) (val l') ≠ 1) :
    Calls Try.prog 89 #[.pointer (some ⟨g, 0, none⟩)] w (NormPost base ok w (mkRat (sgn s (val l)) (val l'))) := by
  have hu := Try.underlying26
  obtain ⟨P, _, hr, hr'⟩ := ratK_rows hM
  simp only at hr hr'
  obtain ⟨A, c, rfl⟩ := Kd.R_slice hr
  obtain ⟨B, d, rfl⟩ := Kd.R_slice hr'
  have HR := Aside0.mk (Kd.R_mono (Kd.R_bound hr) (ok' := fun k => (ok k ∧ P k) ∧ k < w.heap.size) (fun k hk => ⟨hk.1, hk.2.2.1⟩))
  have HR' := Aside0.mk (Kd.R_mono (Kd.R_bound hr') (ok' := fun k => (ok k ∧ ¬ P k) ∧ k < w.heap.size) (fun k hk => ⟨hk.1, hk.2.2.1⟩))
  have HB := Aside0.mk hB
  have HX := Aside0.mk hb
  obtain ⟨x0, x1, x2⟩ := box3 hb
  have hgl := hb.lt
  have HTR := Aside0.mk (trimL_eq hl)
  have htn : trimN l ≠ 0 := by rw [trimN_eq]; exact fun h => hv ((trimL_nil_iff hl).mp h)
  have htz : ((trimN l : Int) == 0) = false := by rw [beq_eq_false_iff_ne]; omega
  have HTN := Aside0.mk htn
  clear htn
  clear hr hr' hM hB hb
  go_enter Try.func89, Try.ntmps89
  go_wp2
  go_region
  go_wp2_with fail
  have hs : (w.alloc (.cells #[.bool false, .slice none 0 0, .slice none 0 0] 26)).heap.size = w.heap.size + 1 := by simp
  have f0 := show Blk ((w.alloc (.cells #[.bool false, .slice none 0 0, .slice none 0 0] 26)).alloc (.cells #[.slice A l.length c] 74)).drew w.heap.size 26 #[.bool false, .slice none 0 0, .slice none 0 0] from ((Blk.new w 26 #[.bool false, .slice none 0 0, .slice none 0 0]).alloc (.cells #[.slice A l.length c] 74)).drew
  have f1 := show Blk ((w.alloc (.cells #[.bool false, .slice none 0 0, .slice none 0 0] 26)).alloc (.cells #[.slice A l.length c] 74)).drew (w.alloc (.cells #[.bool false, .slice none 0 0, .slice none 0 0] 26)).heap.size 74 #[.slice A l.length c] from (Blk.new (w.alloc (.cells #[.bool false, .slice none 0 0, .slice none 0 0] 26)) 74 #[.slice A l.length c]).drew
  have f2 := show Below w.heap.size w ((w.alloc (.cells #[.bool false, .slice none 0 0, .slice none 0 0] 26)).alloc (.cells #[.slice A l.length c] 74)).drew from below_drew (below_alloc (below_alloc (Below.refl _ _) _) _)
  rw [hs] at f1
  generalize ((w.alloc (.cells #[.bool false, .slice none 0 0, .slice none 0 0] 26)).alloc (.cells #[.slice A l.length c] 74)).drew = W at f0 f1 f2 ⊢
  have HF0 := Aside0.mk f0
  have HF1 := Aside0.mk f1
  have HF2 := Aside0.mk f2
  clear hs f0 f1 f2 x0 x1 x2
  refine (trim_calls (w.heap.size + 1) A c l _ HF1.out (Kd.C_below (Kd.R_reads' HR.out).2.2 HF2.out) (Kd.R_reads' HR.out).2.1).mono ?_
  rintro e w1 ⟨rfl, hg, hx⟩
  have HG1 := Aside0.mk (pw_below_grown HF2.out _ HF2.out.size hg (fun k hk => by injection hk with hk; omega))
  have HF01 := Aside0.mk (HF0.out.grown hg (by intro h; injection h with h; omega))
  have HX1 := Aside0.mk ((HX.out.below HF2.out hgl).grown hg (by intro h; injection h with h; omega))
  have HN1 := Aside0.mk hx
  clear hg hx HF0 HF1 HF2
  go_wp2_with fail
  refine (one_calls _ _ l' false _ (Kd.C_below (Kd.R_reads' HR'.out).2.2 HG1.out) hl' hp' (decide_eq_false hone)).mono ?_
  rintro e w2 ⟨rfl, hb⟩
  have HG2 := Aside0.mk (HG1.out.trans (hb.mono HG1.out.size))
  have HF02 := Aside0.mk (HF01.out.below hb HF01.out.lt)
  have HX2 := Aside0.mk (HX1.out.below hb HX1.out.lt)
  have HN2 := Aside0.mk (HN1.out.below hb HN1.out.lt)
  have S2 := hb.size
  clear HG1 HF01 HX1 HN1
  clear hb
  have z0 : w2.cell? ⟨w.heap.size + 1, 0, none⟩ = some (.slice A (trimN l) c) := HN2.out.cell 0
  go_wp2_with fail
  have hm := gcd_calls A B c d (trimL l) l' w2 (Kd.C_below (C_trimL (Kd.R_reads' HR.out).2.2) HG2.out) (Kd.C_below (Kd.R_reads' HR'.out).2.2 HG2.out) (limbs_trimL hl) hl' (plain_trimL _) hp' (by rw [trimL_length]; exact Nat.le_trans (trimN_le l) hn) hn'
  rw [trimL_length, val_trimL] at hm
  refine hm.mono ?_
  rintro e w3 ⟨v, rfl, ho, hb⟩
  obtain ⟨A3, c3, rfl⟩ := Kd.R_slice ho
  have HQ3 := Aside0.mk (Kd.R_reads' ho).2.2
  have HL3 := Aside0.mk (show (lim (Nat.gcd (val l) (val l'))).length ≤ 1099511627776 from Nat.le_trans (lim_length_le (Nat.lt_of_le_of_lt (Nat.gcd_le_right _ (Nat.pos_of_ne_zero hz')) (val_lt hl'))) hn')
  have HG3 := Aside0.mk (HG2.out.trans (hb.mono HG2.out.size))
  have HF03 := Aside0.mk (HF02.out.below hb HF02.out.lt)
  have HX3 := Aside0.mk (HX2.out.below hb HX2.out.lt)
  have HN3 := Aside0.mk (HN2.out.below hb HN2.out.lt)
  have S3 := hb.size
  clear HG2 HF02 HX2 HN2
  clear hb ho hm z0
  obtain ⟨gl, hgl2⟩ : ∃ gl, gl = lim (Nat.gcd (val l) (val l')) := ⟨_, rfl⟩
  rw [← hgl2] at HQ3 HL3 ⊢
  have HGL := Aside0.mk hgl2
  clear hgl2
  go_wp2_with fail
  refine (one_calls _ _ gl false _ HQ3.out (by rw [HGL.out]; exact limbs_lim _) (by rw [HGL.out]; exact plain_lim _) (by rw [HGL.out, val_lim]; exact decide_eq_false hgc)).mono ?_
  rintro e w4 ⟨rfl, hb⟩
  have HQ4 := Aside0.mk (Kd.C_below HQ3.out hb)
  have HG4 := Aside0.mk (HG3.out.trans (hb.mono HG3.out.size))
  have HF04 := Aside0.mk (HF03.out.below hb HF03.out.lt)
  have HX4 := Aside0.mk (HX3.out.below hb HX3.out.lt)
  have HN4 := Aside0.mk (HN3.out.below hb HN3.out.lt)
  have S4 := hb.size
  clear HG3 HF03 HX3 HN3
  clear hb
  have z0 : w4.cell? ⟨w.heap.size + 1, 0, none⟩ = some (.slice A (trimN l) c) := HN4.out.cell 0
  have f3 := HN4.out.frozen 0
  have S3' := HN4.out.lt
  go_wp2_with fail
  have hm := div_calls A A3 c c3 (trimL l) gl w4 (Kd.C_below (C_trimL (Kd.R_reads' HR.out).2.2) HG4.out) HQ4.out (limbs_trimL hl) (by rw [HGL.out]; exact limbs_lim _) (plain_trimL _) (by rw [HGL.out]; exact plain_lim _) (by rw [HGL.out]; exact fun h => Nat.ne_of_gt (Nat.gcd_pos_of_pos_right _ (Nat.pos_of_ne_zero hz')) (lim_nil_iff.1 h)) (by rw [trimL_length]; exact Nat.le_trans (trimN_le l) hn)
  rw [trimL_length, val_trimL] at hm
  refine hm.mono ?_
  rintro e w5 ⟨v1, v2, rfl, ho1, ho2, hb⟩
  obtain ⟨A5, c5, rfl⟩ := Kd.R_slice ho1
  obtain ⟨A6, c6, rfl⟩ := Kd.R_slice ho2
  have HO5 := Aside0.mk (Kd.R_mono (Kd.R_bound ho1) (ok' := fun k => w4.heap.size ≤ k ∧ k < w5.heap.size) (fun k hk => ⟨hk.2.1, hk.2.2.1⟩))
  have HQ5 := Aside0.mk (Kd.C_below HQ4.out hb)
  have HG5 := Aside0.mk (HG4.out.trans (hb.mono HG4.out.size))
  have HF05 := Aside0.mk (HF04.out.below hb HF04.out.lt)
  have HX5 := Aside0.mk (HX4.out.below hb HX4.out.lt)
  have HN5 := Aside0.mk (HN4.out.below hb HN4.out.lt)
  have S5 := hb.size
  clear HG4 HF04 HX4 HN4
  clear hb hm ho1 ho2 z0 f3 HQ4
  obtain ⟨nq, hnq⟩ : ∃ nq, nq = lim (val l / val gl) := ⟨_, rfl⟩
  rw [← hnq] at HO5 ⊢
  have HNQ := Aside0.mk hnq
  clear hnq
  have z0 : w5.cell? ⟨w.heap.size + 1, 0, none⟩ = some (.slice A (trimN l) c) := HN5.out.cell 0
  have f3 := HN5.out.frozen 0
  have HBX := Aside0.mk (show Below w.heap.size w (w5.setCell ⟨w.heap.size + 1, 0, none⟩ (.slice A5 nq.length c5)) from HG5.out.setCell (Nat.le_succ _) _)
  have HXX := Aside0.mk (HX5.out.far (p := ⟨w.heap.size + 1, 0, none⟩) (by show g ≠ w.heap.size + 1; omega) (.slice A5 nq.length c5))
  have HFX := Aside0.mk (HF05.out.far (p := ⟨w.heap.size + 1, 0, none⟩) (by show w.heap.size ≠ w.heap.size + 1; omega) (.slice A5 nq.length c5))
  have HNX := Aside0.mk (HN5.out.set_ 0 (.slice A5 nq.length c5))
  have HOX := Aside0.mk (Kd.R_far HO5.out (p := ⟨w.heap.size + 1, 0, none⟩) (fun k hk => by have := hk.1; show k ≠ w.heap.size + 1; omega) (.slice A5 nq.length c5))
  have hcx : (Kd.int .u32).C (w5.setCell ⟨w.heap.size + 1, 0, none⟩ (.slice A5 nq.length c5)) A3 gl.length gl := reads_set HQ5.out HN5.out (fun _ h => by cases h) _
  have HQX := Aside0.mk hcx
  have S56 : w5.heap.size ≤ (w5.setCell ⟨w.heap.size + 1, 0, none⟩ (.slice A5 nq.length c5)).heap.size := by simp [World.setCell]
  have HS56 := Aside0.mk S56
  clear hcx S56
  go_wp2_with fail
  generalize w5.setCell ⟨w.heap.size + 1, 0, none⟩ (.slice A5 nq.length c5) = W6 at HBX HXX HFX HNX HOX HQX HS56 ⊢
  clear HG5 HX5 HF05 HN5 HO5 HQ5 z0 f3
  have hm := div_calls B A3 d c3 l' gl W6 (Kd.C_below (Kd.R_reads' HR'.out).2.2 HBX.out) HQX.out hl' (by rw [HGL.out]; exact limbs_lim _) hp' (by rw [HGL.out]; exact plain_lim _) (by rw [HGL.out]; exact fun h => Nat.ne_of_gt (Nat.gcd_pos_of_pos_right _ (Nat.pos_of_ne_zero hz')) (lim_nil_iff.1 h)) hn'
  refine hm.mono ?_
  rintro e w7 ⟨v1, v2, rfl, ho1, ho2, hb⟩
  obtain ⟨A7, c7, rfl⟩ := Kd.R_slice ho1
  obtain ⟨A8, c8, rfl⟩ := Kd.R_slice ho2
  have HO7 := Aside0.mk (Kd.R_mono (Kd.R_bound ho1) (ok' := fun k => W6.heap.size ≤ k) (fun k hk => hk.2.1))
  have HP7 := Aside0.mk (Kd.R_below HOX.out hb)
  have HG7 := Aside0.mk (HBX.out.trans (hb.mono HBX.out.size))
  have HF07 := Aside0.mk (HFX.out.below hb HFX.out.lt)
  have HX7 := Aside0.mk (HXX.out.below hb HXX.out.lt)
  have HN7 := Aside0.mk (HNX.out.below hb HNX.out.lt)
  have S6 := hb.size
  have S6' := HFX.out.lt
  clear HBX HFX HXX HNX HOX HQX hb hm ho1 ho2
  obtain ⟨dq, hdq⟩ : ∃ dq, dq = lim (val l' / val gl) := ⟨_, rfl⟩
  rw [← hdq] at HO7 ⊢
  have HDQ := Aside0.mk hdq
  clear hdq
  obtain ⟨x0, x1, x2⟩ := box3 HX7.out
  obtain ⟨y0, y1, y2⟩ := box3 HF07.out
  have z0 := HN7.out.cell 0
  have f0 := HF07.out.frozen 0
  have f1 := HF07.out.frozen 1
  have f2 := HF07.out.frozen 2
  have f3 := HN7.out.frozen 0
  have z0' : w7.cell? ⟨w.heap.size + 1, 0, none⟩ = some (.slice A5 nq.length c5) := z0
  clear z0
  go_wp2
  go_region
  go_wp2
  refine bodyPost_ret (ret_rat Try.results89 _ _ w.heap.size (.bool s) (.slice A5 nq.length c5) (.slice A7 dq.length c7) rfl (store3 HF07.out).drew) rfl ?_
  have hq : repr (mkRat (sgn s (val l)) (val l')) = ⟨s, nq, dq⟩ := by
    rw [repr_norm s hv hz', HNQ.out, HDQ.out, HGL.out, val_lim]
  have hR := R_far3 (x := .bool s) (y := .slice A5 nq.length c5) (z := .slice A7 dq.length c7) HP7.out (g := w.heap.size) (fun i hi => by have := hi.1; omega)
  have hR' := R_far3 (x := .bool s) (y := .slice A5 nq.length c5) (z := .slice A7 dq.length c7) HO7.out (g := w.heap.size) (fun i hi => by omega)
  have hw0 := HB.out
  have hs56 := HS56.out
  refine norm_post hq rfl rfl (rows_rat s (Kd.R_drew (Kd.R_lower hR (by omega))) (Kd.R_drew (Kd.R_lower hR' (by omega))) (fun k hk => .inr (by have := hk.1; omega)) (fun k hk => .inr (by omega)) (fun k h1 h2 => ?_)) (below_drew (below3 HG7.out (Nat.le_refl _)))
  have := h1.2
  omega
theorem norm_calls (g : Nat) (s : Bool) (v v' : Value) (l l' : List Int) (base : Nat) (ok : Nat → Prop) (w : World) (hb : Blk w g 26 #[.bool s, v, v']) (hM : ratK.M w base ok ⟨s, l, l'⟩ [.bool s, v, v']) (hB : base ≤ w.heap.size)
    (hl : Limbs l) (hl' : Limbs l') (hp' : Plain l') (hz' : val l' ≠ 0) (hn : l.length ≤ 1099511627776) (hn' : l'.length ≤ 1099511627776) :
    Calls Try.prog 89 #[.pointer (some ⟨g, 0, none⟩)] w (NormPost base ok w (mkRat (sgn s (val l)) (val l'))) := by
  by_cases hv : val l = 0
  · exact norm_zero g s v v' l l' base ok w hb hM hB hl hl' hp' hz' hn hn' hv
  by_cases hone : val l' = 1
  · exact norm_whole g s v v' l l' base ok w hb hM hB hl hl' hp' hz' hn hn' hv hone
  by_cases hgc : Nat.gcd (val l) (val l') = 1
  · exact norm_prime g s v v' l l' base ok w hb hM hB hl hl' hp' hz' hn hn' hv hone hgc
  · exact norm_div g s v v' l l' base ok w hb hM hB hl hl' hp' hz' hn hn' hv hone hgc
end Go.Proofs.Ytlpckbleokoiiaa.Hand
