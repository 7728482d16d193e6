/- The laws' helpers for rationals: size, copy, comparison, marking, whether a mark is held; and the document's zero. Conditions: what is read can be read and has at most 2^40 limbs; what is marked is the call's own. -/
import Derived.Test.YtjmgemmieedkiaaZHrat1
set_option linter.unusedVariables false
set_option linter.unusedSimpArgs false
namespace Go.Proofs.Ytjmgemmieedkiaa.Hand
open Go.RowKit Go.Proofs.YtjmgemmieedkiaaW.PrintWords Go.Proofs.YtjmgemmieedkiaaW.PrintLast Go.Proofs.YtjmgemmieedkiaaW.PrintMore
theorem l1Zero_calls (w : World) : Calls Try.prog 68 #[] w (RatPost w 0) := by
  have hu := Try.underlying34
  go_enter Try.func68, Try.ntmps68
  go_wp2
  refine bodyPost_ret (v := .agg #[.bool false, .slice (some ⟨w.heap.size + 1, 0, none⟩) 0 0, .slice (some ⟨w.heap.size + 1 + 1, 0, none⟩) 1 1]) (by simp [results, Try.results68, go_sem]) rfl ?_
  unfold RatPost
  rw [repr_zero]
  refine ⟨_, 0, _, 1, rfl, ?_, below_alloc (below_alloc (below_alloc (Below.refl _ _) _) _) _⟩
  generalize hW : w.alloc (.cells #[.bool false, .slice (some ⟨w.heap.size + 1, 0, none⟩) 0 0, .slice (some ⟨w.heap.size + 1 + 1, 0, none⟩) 1 1] 34) = W
  have hs : w.heap.size + 1 = W.heap.size := by rw [← hW]; simp
  have h1 := show (Kd.int .u32).R 49 ((W.alloc (.cells #[] 49)).alloc (.cells #[.int .u32 1] 49)) w.heap.size (fun k => k = W.heap.size) (.slice (some ⟨W.heap.size, 0, none⟩) 0 0) [] from Kd.R_alloc (Kd.R_of_own (ok := fun k => k = W.heap.size) (own_lit W w.heap.size 49 .u32 [] (by omega) (by simp)) (fun k hk => by simpa [Value.ownBlock] using hk.symm)) (.cells #[.int .u32 1] 49)
  have h2 := show (Kd.int .u32).R 49 ((W.alloc (.cells #[] 49)).alloc (.cells #[.int .u32 1] 49)) w.heap.size (fun k => k = (W.alloc (.cells #[] 49)).heap.size) (.slice (some ⟨(W.alloc (.cells #[] 49)).heap.size, 0, none⟩) 1 1) [1] from Kd.R_of_own (ok := fun k => k = (W.alloc (.cells #[] 49)).heap.size) (own_lit (W.alloc (.cells #[] 49)) w.heap.size 49 .u32 [1] (by simp; omega) (by simp)) (fun k hk => by simpa [Value.ownBlock] using hk.symm)
  rw [show (W.alloc (.cells #[] 49)).heap.size = W.heap.size + 1 from by simp] at h2
  rw [hs]
  exact ratK_made (s := false) (Kd.R_mono h1 (fun _ _ => trivial)) h2 (fun k hk => ⟨trivial, by simp [Value.ownBlock]; omega⟩)
theorem ratK_made2 {w : World} {base : Nat} {s : Bool} {l l' : List Int} {v v' : Value} {ok1 ok2 ok' : Nat → Prop} (h : natK.M w base ok1 l [v]) (h' : natK.M w base ok2 l' [v']) (h1 : ∀ k, ok1 k → ok' k) (h2 : ∀ k, ok2 k → ok' k) (hd : ∀ k, ok1 k → ok2 k → False) : ratK.M w base ok' ⟨s, l, l'⟩ [.bool s, v, v'] :=
  ratK_made (Kd.R_mono (natK_row h) h1) (natK_row h') (fun k hk => ⟨h2 k hk, fun e => hd k ((natK_row h).1 k e.symm) hk⟩)
theorem eqQ_K {s : Bool} {A B A' B' : Option Addr} {n c m d n' c' m' d' : Nat} {s' : Bool} (r : Rt) (w : World) (hr : ratK.K w r [.bool s, .slice A n c, .slice B m d]) (hr' : ratK.K w r [.bool s', .slice A' n' c', .slice B' m' d']) :
    Calls Try.prog 29 #[.agg #[.bool s, .slice A n c, .slice B m d], .agg #[.bool s', .slice A' n' c', .slice B' m' d']] w fun e w' => e = .returned (.bool true) ∧ Below w.heap.size w w' := by
  have hu := Try.underlying34
  obtain ⟨A1, c1, B1, d1, e, k1, k2, k3, k4⟩ := ratK_form hr
  obtain ⟨A2, c2, B2, d2, e', k1', k2', k3', k4'⟩ := ratK_form hr'
  simp only [List.cons.injEq, Value.slice.injEq, Value.bool.injEq, and_true] at e e'
  obtain ⟨rfl, ⟨rfl, rfl, rfl⟩, rfl, rfl, rfl⟩ := e
  obtain ⟨rfl, ⟨rfl, rfl, rfl⟩, rfl, rfl, rfl⟩ := e'
  obtain ⟨s, l, l'⟩ := r
  have H1 := Aside0.mk (natK_of k1 k2)
  have H2 := Aside0.mk (natK_of k3 k4)
  have H1' := Aside0.mk (natK_of k1' k2')
  have H2' := Aside0.mk (natK_of k3' k4')
  simp only at H1 H2 H1' H2' ⊢
  clear hr hr' k1 k2 k3 k4 k1' k2' k3' k4'
  have HB := Aside0.mk (below_alloc (below_alloc (Below.refl w.heap.size w) (.cells #[.bool s, .slice A l.length c, .slice B l'.length d] 34)) (.cells #[.bool s, .slice A' l.length c', .slice B' l'.length d'] 34))
  have f0 := ((Blk.new w 34 #[.bool s, .slice A l.length c, .slice B l'.length d]).alloc (.cells #[.bool s, .slice A' l.length c', .slice B' l'.length d'] 34))
  have f1 := Blk.new (w.alloc (.cells #[.bool s, .slice A l.length c, .slice B l'.length d] 34)) 34 #[.bool s, .slice A' l.length c', .slice B' l'.length d']
  rw [show (w.alloc (.cells #[.bool s, .slice A l.length c, .slice B l'.length d] 34)).heap.size = w.heap.size + 1 from by simp] at f1
  have HF0 := Aside0.mk f0
  have HF1 := Aside0.mk f1
  have hb : (s != s) = false := by simp
  have hb2 : (!(s == s)) = false := by simp
  clear f0 f1
  go_enter Try.func29, Try.ntmps29
  go_wp2_with fail
  refine (eqN_K l _ (natK.K_below HB.out H1.out) (natK.K_below HB.out H1'.out)).mono ?_
  rintro e w1 ⟨rfl, hb⟩
  have HB1 := Aside0.mk (HB.out.trans (hb.mono HB.out.size))
  obtain ⟨x0, x1, x2⟩ := box3 (HF0.out.below hb HF0.out.lt)
  obtain ⟨y0, y1, y2⟩ := box3 (HF1.out.below hb HF1.out.lt)
  clear hb
  go_wp2_with fail
  refine (eqN_K l' _ (natK.K_below HB1.out H2.out) (natK.K_below HB1.out H2'.out)).mono ?_
  rintro e w2 ⟨rfl, hb⟩
  have HB2 := Aside0.mk (HB1.out.trans (hb.mono HB1.out.size))
  clear hb
  go_wp2
  go_ret
  exact ⟨rfl, HB2.out⟩
end Go.Proofs.Ytjmgemmieedkiaa.Hand
