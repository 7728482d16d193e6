/- The laws' helpers for rationals: size, copy, comparison, marking, whether a mark is held; and the document's zero. Conditions: what is read can be read and has at most 2^40 limbs; what is marked is the call's own. -/
import Derived.Test.YtlpckbleokoiiaaZHrat2
set_option linter.unusedVariables false
set_option linter.unusedSimpArgs false
namespace Go.Proofs.Ytlpckbleokoiiaa.Hand
open Go.RowKit Go.Proofs.YtlpckbleokoiiaaW.PrintWords Go.Proofs.YtlpckbleokoiiaaW.PrintLast Go.Proofs.YtlpckbleokoiiaaW.PrintMore
theorem l1Zero_calls (w : World) : Calls Try.prog 77 #[] w (RatPost w 0) := by
  have hu := Try.underlying26
  go_enter Try.func77, Try.ntmps77
  go_wp2
  refine bodyPost_ret (v := .agg #[.bool false, .slice (some ⟨w.heap.size + 1, 0, none⟩) 0 0, .slice (some ⟨w.heap.size + 1 + 1, 0, none⟩) 1 1]) (by simp [results, Try.results77, go_sem]) rfl ?_
  unfold RatPost
  rw [repr_zero]
  refine ⟨_, 0, _, 1, rfl, ?_, below_alloc (below_alloc (below_alloc (Below.refl _ _) _) _) _⟩
  generalize hW : w.alloc (.cells #[.bool false, .slice (some ⟨w.heap.size + 1, 0, none⟩) 0 0, .slice (some ⟨w.heap.size + 1 + 1, 0, none⟩) 1 1] 26) = W
  have hs : w.heap.size + 1 = W.heap.size := by rw [← hW]; simp
  have h1 := show (Kd.int .u32).R 73 ((W.alloc (.cells #[] 73)).alloc (.cells #[.int .u32 1] 73)) w.heap.size (fun k => k = W.heap.size) (.slice (some ⟨W.heap.size, 0, none⟩) 0 0) [] from Kd.R_alloc (Kd.R_of_own (ok := fun k => k = W.heap.size) (own_lit W w.heap.size 73 .u32 [] (by omega) (by simp)) (fun k hk => by simpa [Value.ownBlock] using hk.symm)) (.cells #[.int .u32 1] 73)
  have h2 := show (Kd.int .u32).R 73 ((W.alloc (.cells #[] 73)).alloc (.cells #[.int .u32 1] 73)) w.heap.size (fun k => k = (W.alloc (.cells #[] 73)).heap.size) (.slice (some ⟨(W.alloc (.cells #[] 73)).heap.size, 0, none⟩) 1 1) [1] from Kd.R_of_own (ok := fun k => k = (W.alloc (.cells #[] 73)).heap.size) (own_lit (W.alloc (.cells #[] 73)) w.heap.size 73 .u32 [1] (by simp; omega) (by simp)) (fun k hk => by simpa [Value.ownBlock] using hk.symm)
  rw [show (W.alloc (.cells #[] 73)).heap.size = W.heap.size + 1 from by simp] at h2
  rw [hs]
  exact ratK_made (s := false) (Kd.R_mono h1 (fun _ _ => trivial)) h2 (fun k hk => ⟨trivial, by simp [Value.ownBlock]; omega⟩)
theorem ratK_made2 {w : World} {base : Nat} {s : Bool} {l l' : List Int} {v v' : Value} {ok1 ok2 ok' : Nat → Prop} (h : natK.M w base ok1 l [v]) (h' : natK.M w base ok2 l' [v']) (h1 : ∀ k, ok1 k → ok' k) (h2 : ∀ k, ok2 k → ok' k) (hd : ∀ k, ok1 k → ok2 k → False) : ratK.M w base ok' ⟨s, l, l'⟩ [.bool s, v, v'] :=
  ratK_made (Kd.R_mono (natK_row h) h1) (natK_row h') (fun k hk => ⟨h2 k hk, fun e => hd k ((natK_row h).1 k e.symm) hk⟩)
end Go.Proofs.Ytlpckbleokoiiaa.Hand
