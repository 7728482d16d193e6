/- The laws' helpers for rationals: size, copy, comparison, marking, whether a mark is held; and the document's zero. Conditions: what is read can be read and has at most 2^40 limbs; what is marked is the call's own. -/
import Derived.Test.YtjmgemmieedkiaaZHrat2
set_option linter.unusedVariables false
set_option linter.unusedSimpArgs false
namespace Go.Proofs.Ytjmgemmieedkiaa.Hand
open Go.RowKit Go.Proofs.YtjmgemmieedkiaaW.PrintWords Go.Proofs.YtjmgemmieedkiaaW.PrintLast Go.Proofs.YtjmgemmieedkiaaW.PrintMore
theorem ratK_made2 {w : World} {base : Nat} {s : Bool} {l l' : List Int} {v v' : Value} {ok1 ok2 ok' : Nat → Prop} (h : natK.M w base ok1 l [v]) (h' : natK.M w base ok2 l' [v']) (h1 : ∀ k, ok1 k → ok' k) (h2 : ∀ k, ok2 k → ok' k) (hd : ∀ k, ok1 k → ok2 k → False) : ratK.M w base ok' ⟨s, l, l'⟩ [.bool s, v, v'] :=
  ratK_made (Kd.R_mono (natK_row h) h1) (natK_row h') (fun k hk => ⟨h2 k hk, fun e => hd k ((natK_row h).1 k e.symm) hk⟩)
theorem szU_ok (A : Option Addr) (n c : Nat) (left : Int) (w : World) (h0 : (n : Int) ≤ left) (h1 : left ≤ 1048576) :
    Calls Try.prog 56 #[.slice A n c, .int .i64 left] w fun e w' => e = .returned (.int .i64 (left - n)) ∧ w = w' := by
  have d1 : decide (left - (n : Int) < 0) = false := decide_eq_false (by omega)
  go_enter Try.func56, Try.ntmps56
  go_wp2
  go_ret
  exact ⟨rfl, rfl⟩
set_option maxRecDepth 100000 in
theorem szU_no (A : Option Addr) (n c : Nat) (left : Int) (w : World) (hn : n ≤ 9223372036854775807) (h : 0 ≤ left) (h0 : left < (n : Int)) (h1 : left ≤ 1048576) :
    Calls Try.prog 56 #[.slice A n c, .int .i64 left] w fun e w' => e = .returned (.int .i64 (-1)) ∧ w = w' := by
  have d1 : decide (left - (n : Int) < 0) = true := decide_eq_true (by omega)
  go_enter Try.func56, Try.ntmps56
  go_wp2
  go_ret
  exact ⟨rfl, rfl⟩
set_option maxRecDepth 100000 in
theorem szQ_ok (s : Bool) (A B : Option Addr) (n c m d : Nat) (left : Int) (R : Int) (w : World) (h0 : (n : Int) + m ≤ left) (h1 : left ≤ 1048576) (hR : R = left - n - m) :
    Calls Try.prog 25 #[.agg #[.bool s, .slice A n c, .slice B m d], .int .i64 left] w fun e w' => e = .returned (.int .i64 R) ∧ Below w.heap.size w w' := by
  have hu := Try.underlying31
  subst hR
  have d1 : decide (left - (n : Int) < 0) = false := decide_eq_false (by omega)
  have d2 : decide (left - (n : Int) - (m : Int) < 0) = false := decide_eq_false (by omega)
  go_enter Try.func25, Try.ntmps25
  go_wp2_with fail
  refine (szU_ok _ n _ left _ (by omega) h1).mono ?_
  rintro e w1 ⟨rfl, rfl⟩
  go_wp2_with fail
  refine (szU_ok _ m _ (left - n) _ (by omega) (by omega)).mono ?_
  rintro e w1 ⟨rfl, rfl⟩
  go_wp2
  go_ret
  exact ⟨rfl, below_alloc (Below.refl _ _) _⟩
set_option maxRecDepth 100000 in
theorem szQ_no (s : Bool) (A B : Option Addr) (n c m d : Nat) (left : Int) (w : World) (hn : n ≤ 9223372036854775807) (hm : m ≤ 9223372036854775807) (h : 0 ≤ left) (h0 : left < (n : Int) + m) (h1 : left ≤ 1048576) :
    Calls Try.prog 25 #[.agg #[.bool s, .slice A n c, .slice B m d], .int .i64 left] w fun e w' => e = .returned (.int .i64 (-1)) ∧ Below w.heap.size w w' := by
  have hu := Try.underlying31
  by_cases hl : left < (n : Int)
  · go_enter Try.func25, Try.ntmps25
    go_wp2_with fail
    refine (szU_no _ n _ left _ hn h hl h1).mono ?_
    rintro e w1 ⟨rfl, rfl⟩
    go_wp2
    go_ret
    exact ⟨rfl, below_alloc (Below.refl _ _) _⟩
  · have d1 : decide (left - (n : Int) < 0) = false := decide_eq_false (by omega)
    go_enter Try.func25, Try.ntmps25
    go_wp2_with fail
    refine (szU_ok _ n _ left _ (by omega) h1).mono ?_
    rintro e w1 ⟨rfl, rfl⟩
    go_wp2_with fail
    refine (szU_no _ m _ (left - n) _ hm (by omega) (by omega) (by omega)).mono ?_
    rintro e w1 ⟨rfl, rfl⟩
    go_wp2
    go_ret
    exact ⟨rfl, below_alloc (Below.refl _ _) _⟩
theorem eqQ_K {s : Bool} {A B A' B' : Option Addr} {n c m d n' c' m' d' : Nat} {s' : Bool} (r : Rt) (w : World) (hr : ratK.K w r [.bool s, .slice A n c, .slice B m d]) (hr' : ratK.K w r [.bool s', .slice A' n' c', .slice B' m' d']) :
    Calls Try.prog 29 #[.agg #[.bool s, .slice A n c, .slice B m d], .agg #[.bool s', .slice A' n' c', .slice B' m' d']] w fun e w' => e = .returned (.bool true) ∧ Below w.heap.size w w' := by
  have hu := Try.underlying34
  obtain ⟨A1, c1, B1, d1, e, k1, k2, k3, k4⟩ := ratK_form hr
  obtain ⟨A2, c2, B2, d2, e', k1', k2', k3', k4'⟩ := ratK_form hr'
  simp only [List.cons.injEq, Value.slice.injEq, Value.bool.injEq, and_true] at e e'
  obtain ⟨rfl, ⟨rfl, rfl, rfl⟩, rfl, rfl, rfl⟩ := e
  obtain ⟨rfl, ⟨rfl, rfl, rfl⟩, rfl, rfl, rfl⟩ := e'
  obtain ⟨s, l, l'⟩ := r
  have H1 := Aside0.mk (natK_of k1 k2)
  have H2 := Aside0.mk (natK_of k3 k4)
  have H1' := Aside0.mk (natK_of k1' k2')
  have H2' := Aside0.mk (natK_of k3' k4')
  simp only at H1 H2 H1' H2' ⊢
  clear hr hr' k1 k2 k3 k4 k1' k2' k3' k4'
  have HB := Aside0.mk (below_alloc (below_alloc (Below.refl w.heap.size w) (.cells #[.bool s, .slice A l.length c, .slice B l'.length d] 34)) (.cells #[.bool s, .slice A' l.length c', .slice B' l'.length d'] 34))
  have f0 := ((Blk.new w 34 #[.bool s, .slice A l.length c, .slice B l'.length d]).alloc (.cells #[.bool s, .slice A' l.length c', .slice B' l'.length d'] 34))
  have f1 := Blk.new (w.alloc (.cells #[.bool s, .slice A l.length c, .slice B l'.length d] 34)) 34 #[.bool s, .slice A' l.length c', .slice B' l'.length d']
  rw [show (w.alloc (.cells #[.bool s, .slice A l.length c, .slice B l'.length d] 34)).heap.size = w.heap.size + 1 from by simp] at f1
  have HF0 := Aside0.mk f0
  have HF1 := Aside0.mk f1
  have hb : (s != s) = false := by simp
  have hb2 : (!(s == s)) = false := by simp
  clear f0 f1
  go_enter Try.func29, Try.ntmps29
  go_wp2_with fail
  refine (eqN_K l _ (natK.K_below HB.out H1.out) (natK.K_below HB.out H1'.out)).mono ?_
  rintro e w1 ⟨rfl, hb⟩
  have HB1 := Aside0.mk (HB.out.trans (hb.mono HB.out.size))
  obtain ⟨x0, x1, x2⟩ := box3 (HF0.out.below hb HF0.out.lt)
  obtain ⟨y0, y1, y2⟩ := box3 (HF1.out.below hb HF1.out.lt)
  clear hb
  go_wp2_with fail
  refine (eqN_K l' _ (natK.K_below HB1.out H2.out) (natK.K_below HB1.out H2'.out)).mono ?_
  rintro e w2 ⟨rfl, hb⟩
  have HB2 := Aside0.mk (HB1.out.trans (hb.mono HB1.out.size))
  clear hb
  go_wp2
  go_ret
  exact ⟨rfl, HB2.out⟩
set_option maxHeartbeats 1000000 in
theorem toQ_K {s : Bool} {A B : Option Addr} {n c m d : Nat} (r : Rt) (w : World) (hr : ratK.K w r [.bool s, .slice A n c, .slice B m d]) (hn : r.num.length + r.den.length ≤ 1099511627776) :
    Calls Try.prog 27 #[.agg #[.bool s, .slice A n c, .slice B m d]] w fun e w' => ∃ A1 c1 B1 d1, e = .returned (.agg #[.bool r.neg, .slice A1 r.num.length c1, .slice B1 r.den.length d1]) ∧ ratK.M w' w.heap.size (fun _ => True) r [.bool r.neg, .slice A1 r.num.length c1, .slice B1 r.den.length d1] ∧ Below w.heap.size w w' := by
  have hu := Try.underlying31
  have hu' := Try.underlying34
  obtain ⟨A2, c2, B2, d2, e, k1, k2, k3, k4⟩ := ratK_form hr
  simp only [List.cons.injEq, Value.slice.injEq, Value.bool.injEq, and_true] at e
  obtain ⟨rfl, ⟨rfl, rfl, rfl⟩, rfl, rfl, rfl⟩ := e
  obtain ⟨s, l, l'⟩ := r
  have H1 := Aside0.mk (natK_of k1 k2)
  have H2 := Aside0.mk (natK_of k3 k4)
  simp only at H1 H2 hn ⊢
  clear hr k1 k2 k3 k4
  go_enter Try.func27, Try.ntmps27
  go_wp2_with fail
  have z1 : (w.alloc (.cells #[.bool s, .slice A l.length c, .slice B l'.length d] 31)).heap.size = w.heap.size + 1 := by simp
  have z2 : ((w.alloc (.cells #[.bool s, .slice A l.length c, .slice B l'.length d] 31)).alloc (.cells #[.bool false, .slice none 0 0, .slice none 0 0] 34)).heap.size = w.heap.size + 1 + 1 := by simp
  have f0 := ((Blk.new w 31 #[.bool s, .slice A l.length c, .slice B l'.length d]).alloc (.cells #[.bool false, .slice none 0 0, .slice none 0 0] 34)).alloc (.cells #[.bool s, .slice none 0 0, .slice none 0 0] 34)
  have f1 := (Blk.new (w.alloc (.cells #[.bool s, .slice A l.length c, .slice B l'.length d] 31)) 34 #[.bool false, .slice none 0 0, .slice none 0 0]).alloc (.cells #[.bool s, .slice none 0 0, .slice none 0 0] 34)
  have f2 := Blk.new ((w.alloc (.cells #[.bool s, .slice A l.length c, .slice B l'.length d] 31)).alloc (.cells #[.bool false, .slice none 0 0, .slice none 0 0] 34)) 34 #[.bool s, .slice none 0 0, .slice none 0 0]
  have f3 := below_alloc (below_alloc (below_alloc (Below.refl w.heap.size w) (.cells #[.bool s, .slice A l.length c, .slice B l'.length d] 31)) (.cells #[.bool false, .slice none 0 0, .slice none 0 0] 34)) (.cells #[.bool s, .slice none 0 0, .slice none 0 0] 34)
  rw [z1] at f1
  rw [z2] at f2
  generalize ((w.alloc (.cells #[.bool s, .slice A l.length c, .slice B l'.length d] 31)).alloc (.cells #[.bool false, .slice none 0 0, .slice none 0 0] 34)).alloc (.cells #[.bool s, .slice none 0 0, .slice none 0 0] 34) = W at f0 f1 f2 f3 ⊢
  clear z1 z2
  obtain ⟨g, hg⟩ : ∃ g, g = w.heap.size := ⟨_, rfl⟩
  have HGE := Aside0.mk hg
  have HF0 := Aside0.mk f0
  have HF1 := Aside0.mk f1
  have HF2 := Aside0.mk f2
  have HF3 := Aside0.mk f3
  clear f0 f1 f2 f3
  refine (toN_K l _ (natK.K_below HF3.out H1.out) (by omega)).mono ?_
  rintro e w1 ⟨A1, c1, rfl, ho, hb⟩
  have HO1 := Aside0.mk (natK.M_mono (fun k hk => hk.2.1) (natK.M_bound ho))
  have HB1 := Aside0.mk (HF3.out.trans (hb.mono HF3.out.size))
  have HG1 := Aside0.mk (HF1.out.below hb HF1.out.lt)
  have HG2 := Aside0.mk (HF2.out.below hb HF2.out.lt)
  obtain ⟨x0, x1, x2⟩ := box3 (HF0.out.below hb HF0.out.lt)
  obtain ⟨⟨y0, y1, y2⟩, q0, q1, q2⟩ := bfacts HG2.out
  have HZ := Aside0.mk (And.intro HF0.out.lt (And.intro HF2.out.lt hb.size))
  have HX1 := Aside0.mk ((HF0.out.below hb HF0.out.lt).far (p := ⟨w.heap.size + 1 + 1, 1, none⟩) (by show w.heap.size ≠ w.heap.size + 1 + 1; omega) (.slice A1 l.length c1))
  clear hb ho
  go_wp2_with fail
  have f1 := HG1.out.far (p := ⟨w.heap.size + 1 + 1, 1, none⟩) (by show w.heap.size + 1 ≠ w.heap.size + 1 + 1; omega) (.slice A1 l.length c1)
  have f2 := HG2.out.set_ 1 (.slice A1 l.length c1)
  have f3 := HB1.out.setCell (p := ⟨w.heap.size + 1 + 1, 1, none⟩) (by show w.heap.size ≤ w.heap.size + 1 + 1; omega) (.slice A1 l.length c1)
  have f4 := Kd.M_far HO1.out (p := ⟨w.heap.size + 1 + 1, 1, none⟩) (fun k hk => by show k ≠ w.heap.size + 1 + 1; have := HZ.out; omega) (.slice A1 l.length c1)
  have f5 := HX1.out
  have f6 : w1.heap.size ≤ (w1.setCell ⟨w.heap.size + 1 + 1, 1, none⟩ (.slice A1 l.length c1)).heap.size := by simp [World.setCell]
  generalize w1.setCell ⟨w.heap.size + 1 + 1, 1, none⟩ (.slice A1 l.length c1) = V at f1 f2 f3 f4 f5 f6 ⊢
  have HG1' := Aside0.mk f1
  have HG2' := Aside0.mk f2
  have HB1' := Aside0.mk f3
  have HO1' := Aside0.mk f4
  have HX1' := Aside0.mk f5
  have HZ' := Aside0.mk f6
  clear f1 f2 f3 f4 f5 f6 x0 x1 x2 y0 y1 y2 q0 q1 q2 HG1 HG2 HB1 HO1 HX1
  refine (toN_K l' _ (natK.K_below HB1'.out H2.out) (by omega)).mono ?_
  rintro e w2 ⟨A2, c2, rfl, ho, hb⟩
  have HO2 := Aside0.mk (natK.M_mono (fun k hk => hk.2.1) (natK.M_bound ho))
  have HP2 := Aside0.mk (Kd.M_mono _ (ok' := fun k => W.heap.size ≤ k ∧ k < V.heap.size) (fun k hk => ⟨hk.1, hk.2.2.1⟩) (natK.M_bound HO1'.out))
  have HP2' := Aside0.mk (Kd.M_below HP2.out hb)
  have HB2 := Aside0.mk (HB1'.out.trans (hb.mono HB1'.out.size))
  have HG12 := Aside0.mk (HG1'.out.below hb HG1'.out.lt)
  have HG22 := Aside0.mk (HG2'.out.below hb HG2'.out.lt)
  obtain ⟨⟨y0, y1, y2⟩, q0, q1, q2⟩ := bfacts (show Blk w2 (w.heap.size + 1 + 1) 34 #[.bool s, .slice A1 l.length c1, .slice none 0 0] from HG22.out)
  obtain ⟨⟨v0, v1, v2⟩, p0, p1, p2⟩ := bfacts HG12.out
  have hvs := hb.size
  clear ho hb HO1' HB1' HG1' HG2' HX1' HP2
  go_wp2
  have hz := HZ.out
  have hz' := HZ'.out
  refine bodyPost_ret (ret_rat Try.results27 _ _ (w.heap.size + 1) (.bool s) (.slice A1 l.length c1) (.slice A2 l'.length c2) rfl (store3 ((show Blk w2 (w.heap.size + 1) 34 _ from HG12.out).far (p := ⟨w.heap.size + 1 + 1, 2, none⟩) (by show w.heap.size + 1 ≠ w.heap.size + 1 + 1; omega) _))) rfl ?_
  have hl1 : w.heap.size ≤ W.heap.size := by omega
  have hl2 : w.heap.size ≤ V.heap.size := by omega
  have hM := ratK_made2 (s := s) (Kd.M_lower _ hl1 HP2'.out) (Kd.M_lower _ hl2 HO2.out) (ok' := fun k => W.heap.size ≤ k) (fun k h => h.1) (fun k h => by omega) (fun k h1 h2 => by have := h1.2; omega)
  have hM2 := Kd.M_far hM (p := ⟨w.heap.size + 1 + 1, 2, none⟩) (fun k hk => by show k ≠ w.heap.size + 1 + 1; omega) (.slice A2 l'.length c2)
  have hM3 := far3 hM2 (g := w.heap.size + 1) (fun k hk => by omega) (x := .bool s) (y := .slice A1 l.length c1) (z := .slice A2 l'.length c2)
  exact ⟨_, _, _, _, rfl, Kd.M_mono _ (fun _ _ => trivial) hM3, below3 (HB2.out.setCell (p := ⟨w.heap.size + 1 + 1, 2, none⟩) (by show w.heap.size ≤ w.heap.size + 1 + 1; omega) _) (by omega)⟩
end Go.Proofs.Ytjmgemmieedkiaa.Hand
