/- The method norm of rationals: lowest terms. Conditions: the rational lies in a variable of its own, its lists are rows of one's own that lie apart; their elements are limbs, at most 2^40 of them; the denominator is plain and not zero. -/
import Derived.Test.YtlpckbleokoiiaaZHrat3
import Derived.Test.YtlpckbleokoiiaaZN5
set_option linter.unusedVariables false
set_option linter.unusedSimpArgs false
namespace Go.Proofs.Ytlpckbleokoiiaa.Hand
open Go.RowKit Go.Proofs.YtlpckbleokoiiaaW.PrintWords Go.Proofs.YtlpckbleokoiiaaW.PrintLast Go.Proofs.YtlpckbleokoiiaaW.PrintMore
theorem rows_rat {w : World} {base : Nat} {v v' : Value} {l l' : List Int} {ok ok' ok2 : Nat → Prop} (s : Bool) (h : (Kd.int .u32).R 73 w base ok v l) (h' : (Kd.int .u32).R 73 w base ok' v' l') (ho : ∀ k, ok k → ok2 k) (ho' : ∀ k, ok' k → ok2 k) (hd : ∀ k, ok k → ok' k → False) : ratK.M w base ok2 ⟨s, l, l'⟩ [.bool s, v, v'] :=
  ratK_made (Kd.R_mono h ho) h' (fun k hk => ⟨ho' k hk, fun e => hd k (h.1 k e.symm) hk⟩)
/-- What norm hands back: rows of the rational that came in, or new ones. -/
def NormPost (base : Nat) (ok : Nat → Prop) (w : World) (q : Rat) (e : Ending) (w' : World) : Prop := ∃ A c B d, e = .returned (.agg #[.bool (repr q).neg, .slice A (repr q).num.length c, .slice B (repr q).den.length d]) ∧ ratK.M w' base (fun k => ok k ∨ w.heap.size ≤ k) (repr q) [.bool (repr q).neg, .slice A (repr q).num.length c, .slice B (repr q).den.length d] ∧ Below w.heap.size w w'
theorem norm_post {w0 w : World} {base : Nat} {ok : Nat → Prop} {s : Bool} {l l' : List Int} {A B : Option Addr} {n c m d : Nat} {q : Rat} (hq : repr q = ⟨s, l, l'⟩) (hn : l.length = n) (hm : l'.length = m) (hM : ratK.M w base (fun k => ok k ∨ w0.heap.size ≤ k) ⟨s, l, l'⟩ [.bool s, .slice A n c, .slice B m d]) (hB : Below w0.heap.size w0 w) :
    NormPost base ok w0 q (.returned (.agg #[.bool s, .slice A n c, .slice B m d])) w := by
  subst hn hm
  unfold NormPost
  rw [hq]
  exact ⟨A, c, B, d, rfl, hM, hB⟩
theorem R_far3 {w : World} {base : Nat} {ok : Nat → Prop} {v : Value} {l : List Int} (h : (Kd.int .u32).R 73 w base ok v l) {g : Nat} (hg : ∀ i, ok i → i ≠ g) {x y z : Value} : (Kd.int .u32).R 73 (((w.setCell ⟨g, 0, none⟩ x).setCell ⟨g, 1, none⟩ y).setCell ⟨g, 2, none⟩ z) base ok v l := Kd.R_far (p := ⟨g, 2, none⟩) (Kd.R_far (p := ⟨g, 1, none⟩) (Kd.R_far (p := ⟨g, 0, none⟩) h hg _) hg _) hg _
set_option maxHeartbeats 4000000 in
set_option maxRecDepth 100000 in
theorem norm_zero (g : Nat) (s : Bool) (v v' : Value) (l l' : List Int) (base : Nat) (ok : Nat → Prop) (w : World) (hb : Blk w g 26 #[.bool s, v, v']) (hM : ratK.M w base ok ⟨s, l, l'⟩ [.bool s, v, v']) (hB : base ≤ w.heap.size)
    (hl : Limbs l) (hl' : Limbs l') (hp' : Plain l') (hz' : val l' ≠ 0) (hn : l.length ≤ 1099511627776) (hn' : l'.length ≤ 1099511627776) (hv : val l = 0) :
    Calls Try.prog 89 #[.pointer (some ⟨g, 0, none⟩)] w (NormPost base ok w (mkRat (sgn s (val l)) (val l'))) := by
  have hu := Try.underlying26
  obtain ⟨P, _, hr, hr'⟩ := ratK_rows hM
  simp only at hr hr'
  obtain ⟨A, c, rfl⟩ := Kd.R_slice hr
  obtain ⟨B, d, rfl⟩ := Kd.R_slice hr'
  have HR := Aside0.mk (Kd.R_mono (Kd.R_bound hr) (ok' := fun k => (ok k ∧ P k) ∧ k < w.heap.size) (fun k hk => ⟨hk.1, hk.2.2.1⟩))
  have HR' := Aside0.mk (Kd.R_mono (Kd.R_bound hr') (ok' := fun k => (ok k ∧ ¬ P k) ∧ k < w.heap.size) (fun k hk => ⟨hk.1, hk.2.2.1⟩))
  have HB := Aside0.mk hB
  have HX := Aside0.mk hb
  obtain ⟨x0, x1, x2⟩ := box3 hb
  have hgl := hb.lt
  have HTR := Aside0.mk (trimL_eq hl)
  have htn : trimN l = 0 := by rw [trimN_eq]; exact (trimL_nil_iff hl).mpr hv
  have htz : ((trimN l : Int) == 0) = true := by rw [beq_iff_eq]; omega
  have HTN := Aside0.mk htn
  clear htn
  clear hr hr' hM hB hb
  go_enter Try.func89, Try.ntmps89
  go_wp2
  go_region
  go_wp2_with fail
  have hs : (w.alloc (.cells #[.bool false, .slice none 0 0, .slice none 0 0] 26)).heap.size = w.heap.size + 1 := by simp
  have f0 := show Blk ((w.alloc (.cells #[.bool false, .slice none 0 0, .slice none 0 0] 26)).alloc (.cells #[.slice A l.length c] 74)).drew w.heap.size 26 #[.bool false, .slice none 0 0, .slice none 0 0] from ((Blk.new w 26 #[.bool false, .slice none 0 0, .slice none 0 0]).alloc (.cells #[.slice A l.length c] 74)).drew
  have f1 := show Blk ((w.alloc (.cells #[.bool false, .slice none 0 0, .slice none 0 0] 26)).alloc (.cells #[.slice A l.length c] 74)).drew (w.alloc (.cells #[.bool false, .slice none 0 0, .slice none 0 0] 26)).heap.size 74 #[.slice A l.length c] from (Blk.new (w.alloc (.cells #[.bool false, .slice none 0 0, .slice none 0 0] 26)) 74 #[.slice A l.length c]).drew
  have f2 := show Below w.heap.size w ((w.alloc (.cells #[.bool false, .slice none 0 0, .slice none 0 0] 26)).alloc (.cells #[.slice A l.length c] 74)).drew from below_drew (below_alloc (below_alloc (Below.refl _ _) _) _)
  rw [hs] at f1
  generalize ((w.alloc (.cells #[.bool false, .slice none 0 0, .slice none 0 0] 26)).alloc (.cells #[.slice A l.length c] 74)).drew = W at f0 f1 f2 ⊢
  have HF0 := Aside0.mk f0
  have HF1 := Aside0.mk f1
  have HF2 := Aside0.mk f2
  clear hs f0 f1 f2 x0 x1 x2
  refine (trim_calls (w.heap.size + 1) A c l _ HF1.out (Kd.C_below (Kd.R_reads' HR.out).2.2 HF2.out) (Kd.R_reads' HR.out).2.1).mono ?_
  rintro e w1 ⟨rfl, hg, hx⟩
  have HG1 := Aside0.mk (pw_below_grown HF2.out _ HF2.out.size hg (fun k hk => by injection hk with hk; omega))
  have HF01 := Aside0.mk (HF0.out.grown hg (by intro h; injection h with h; omega))
  have HX1 := Aside0.mk ((HX.out.below HF2.out hgl).grown hg (by intro h; injection h with h; omega))
  have HN1 := Aside0.mk hx
  clear hg hx HF0 HF1 HF2
  go_wp2_with fail
  refine (zero_calls _).mono ?_
  have hle := HF01.out.lt
  rintro e w2 ⟨A2, c2, B2, d2, rfl, ho, hb⟩
  have HG2 := Aside0.mk (HG1.out.trans (hb.mono HG1.out.size))
  have HF02 := Aside0.mk (HF01.out.below hb HF01.out.lt)
  have HX2 := Aside0.mk (HX1.out.below hb HX1.out.lt)
  have HN2 := Aside0.mk (HN1.out.below hb HN1.out.lt)
  have S2 := hb.size
  clear HG1 HF01 HX1 HN1
  have hbw := HB.out
  have HM := Aside0.mk (Kd.M_lower _ (by omega : base ≤ w1.heap.size) (Kd.M_mono _ (ok' := fun k => w1.heap.size ≤ k) (fun k hk => hk.2.1) (Kd.M_bound _ ho)))
  clear hb ho
  obtain ⟨x0, x1, x2⟩ := box3 HX2.out
  obtain ⟨y0, y1, y2⟩ := box3 HF02.out
  have z0 := HN2.out.cell 0
  have f0 := HF02.out.frozen 0
  have f1 := HF02.out.frozen 1
  have f2 := HF02.out.frozen 2
  have f3 := HN2.out.frozen 0
  go_wp2
  refine bodyPost_ret (ret_rat Try.results89 _ _ w.heap.size _ _ _ rfl (store3 HF02.out)) rfl ?_
  rw [hv, sgn_zero, Rat.zero_mkRat]
  exact ⟨_, _, _, _, rfl, Kd.M_mono _ (fun k hk => .inr (by omega)) (far3 HM.out (fun i hi => by omega)), below3 HG2.out (Nat.le_refl _)⟩
set_option maxHeartbeats 4000000 in
set_option maxRecDepth 100000 in
theorem norm_whole (g : Nat) (s : Bool) (v v' : Value) (l l' : List Int) (base : Nat) (ok : Nat → Prop) (w : World) (hb : Blk w g 26 #[.bool s, v, v']) (hM : ratK.M w base ok ⟨s, l, l'⟩ [.bool s, v, v']) (hB : base ≤ w.heap.size)
    (hl : Limbs l) (hl' : Limbs l') (hp' : Plain l') (hz' : val l' ≠ 0) (hn : l.length ≤ 1099511627776) (hn' : l'.length ≤ 1099511627776) (hv : val l ≠ 0) (hone : val l' = 1) :
    Calls Try.prog 89 #[.pointer (some ⟨g, 0, none⟩)] w (NormPost base ok w (mkRat (sgn s (val l)) (val l'))) := by
  have hu := Try.underlying26
  obtain ⟨P, _, hr, hr'⟩ := ratK_rows hM
  simp only at hr hr'
  obtain ⟨A, c, rfl⟩ := Kd.R_slice hr
  obtain ⟨B, d, rfl⟩ := Kd.R_slice hr'
  have HR := Aside0.mk (Kd.R_mono (Kd.R_bound hr) (ok' := fun k => (ok k ∧ P k) ∧ k < w.heap.size) (fun k hk => ⟨hk.1, hk.2.2.1⟩))
  have HR' := Aside0.mk (Kd.R_mono (Kd.R_bound hr') (ok' := fun k => (ok k ∧ ¬ P k) ∧ k < w.heap.size) (fun k hk => ⟨hk.1, hk.2.2.1⟩))
  have HB := Aside0.mk hB
  have HX := Aside0.mk hb
  obtain ⟨x0, x1, x2⟩ := box3 hb
  have hgl := hb.lt
  have HTR := Aside0.mk (trimL_eq hl)
  have htn : trimN l ≠ 0 := by rw [trimN_eq]; exact fun h => hv ((trimL_nil_iff hl).mp h)
  have htz : ((trimN l : Int) == 0) = false := by rw [beq_eq_false_iff_ne]; omega
  have HTN := Aside0.mk htn
  clear htn
  clear hr hr' hM hB hb
  go_enter Try.func89, Try.ntmps89
  go_wp2
  go_region
  go_wp2_with fail
  have hs : (w.alloc (.cells #[.bool false, .slice none 0 0, .slice none 0 0] 26)).heap.size = w.heap.size + 1 := by simp
  have f0 := show Blk ((w.alloc (.cells #[.bool false, .slice none 0 0, .slice none 0 0] 26)).alloc (.cells #[.slice A l.length c] 74)).drew w.heap.size 26 #[.bool false, .slice none 0 0, .slice none 0 0] from ((Blk.new w 26 #[.bool false, .slice none 0 0, .slice none 0 0]).alloc (.cells #[.slice A l.length c] 74)).drew
  have f1 := show Blk ((w.alloc (.cells #[.bool false, .slice none 0 0, .slice none 0 0] 26)).alloc (.cells #[.slice A l.length c] 74)).drew (w.alloc (.cells #[.bool false, .slice none 0 0, .slice none 0 0] 26)).heap.size 74 #[.slice A l.length c] from (Blk.new (w.alloc (.cells #[.bool false, .slice none 0 0, .slice none 0 0] 26)) 74 #[.slice A l.length c]).drew
  have f2 := show Below w.heap.size w ((w.alloc (.cells #[.bool false, .slice none 0 0, .slice none 0 0] 26)).alloc (.cells #[.slice A l.length c] 74)).drew from below_drew (below_alloc (below_alloc (Below.refl _ _) _) _)
  rw [hs] at f1
  generalize ((w.alloc (.cells #[.bool false, .slice none 0 0, .slice none 0 0] 26)).alloc (.cells #[.slice A l.length c] 74)).drew = W at f0 f1 f2 ⊢
  have HF0 := Aside0.mk f0
  have HF1 := Aside0.mk f1
  have HF2 := Aside0.mk f2
  clear hs f0 f1 f2 x0 x1 x2
  refine (trim_calls (w.heap.size + 1) A c l _ HF1.out (Kd.C_below (Kd.R_reads' HR.out).2.2 HF2.out) (Kd.R_reads' HR.out).2.1).mono ?_
  rintro e w1 ⟨rfl, hg, hx⟩
  have HG1 := Aside0.mk (pw_below_grown HF2.out _ HF2.out.size hg (fun k hk => by injection hk with hk; omega))
  have HF01 := Aside0.mk (HF0.out.grown hg (by intro h; injection h with h; omega))
  have HX1 := Aside0.mk ((HX.out.below HF2.out hgl).grown hg (by intro h; injection h with h; omega))
  have HN1 := Aside0.mk hx
  clear hg hx HF0 HF1 HF2
  go_wp2_with fail
  refine (one_calls _ _ l' true _ (Kd.C_below (Kd.R_reads' HR'.out).2.2 HG1.out) hl' hp' (decide_eq_true hone)).mono ?_
  rintro e w2 ⟨rfl, hb⟩
  have HG2 := Aside0.mk (HG1.out.trans (hb.mono HG1.out.size))
  have HF02 := Aside0.mk (HF01.out.below hb HF01.out.lt)
  have HX2 := Aside0.mk (HX1.out.below hb HX1.out.lt)
  have HN2 := Aside0.mk (HN1.out.below hb HN1.out.lt)
  have S2 := hb.size
  clear HG1 HF01 HX1 HN1
  clear hb
  obtain ⟨x0, x1, x2⟩ := box3 HX2.out
  obtain ⟨y0, y1, y2⟩ := box3 HF02.out
  have z0 := HN2.out.cell 0
  have f0 := HF02.out.frozen 0
  have f1 := HF02.out.frozen 1
  have f2 := HF02.out.frozen 2
  have f3 := HN2.out.frozen 0
  go_wp2
  go_region
  go_wp2
  refine bodyPost_ret (ret_rat Try.results89 _ _ w.heap.size (.bool s) (.slice A (trimN l) c) (.slice B l'.length d) rfl (store3 HF02.out).drew) rfl ?_
  have hgc : Nat.gcd (val l) (val l') = 1 := by rw [hone]; exact Nat.gcd_one_right _
  have hq : repr (mkRat (sgn s (val l)) (val l')) = ⟨s, trimL l, l'⟩ := by
    rw [repr_norm s hv hz', hgc, Nat.div_one, Nat.div_one, ← HTR.out, lim_val hl' hp']
  have hR := R_far3 (x := .bool s) (y := .slice A (trimN l) c) (z := .slice B l'.length d) (Kd.R_take (Kd.R_below HR.out HG2.out) (trimN_le l)) (g := w.heap.size) (fun i hi => by have := hi.2; omega)
  have hR' := R_far3 (x := .bool s) (y := .slice A (trimN l) c) (z := .slice B l'.length d) (Kd.R_below HR'.out HG2.out) (g := w.heap.size) (fun i hi => by have := hi.2; omega)
  exact norm_post hq (trimL_length l) rfl (rows_rat s (Kd.R_drew hR) (Kd.R_drew hR') (fun k hk => .inl hk.1.1) (fun k hk => .inl hk.1.1) (fun k h1 h2 => h2.1.2 h1.1.2)) (below_drew (below3 HG2.out (Nat.le_refl _)))
end Go.Proofs.Ytlpckbleokoiiaa.Hand
