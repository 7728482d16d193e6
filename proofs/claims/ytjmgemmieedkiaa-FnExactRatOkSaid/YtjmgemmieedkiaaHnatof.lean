/- natOf hands back its argument without the zeros at the high end (the memory is the argument's), and small makes the plain list of a number of 64 bits. Conditions: the argument can be read. -/
import Derived.Test.YtjmgemmieedkiaaHtrim
set_option linter.unusedVariables false
set_option linter.unusedSimpArgs false
namespace Go.Proofs.Ytjmgemmieedkiaa.Hand
open Go.RowKit Go.Proofs.YtjmgemmieedkiaaW.PrintWords Go.Proofs.YtjmgemmieedkiaaW.PrintLast Go.Proofs.YtjmgemmieedkiaaW.PrintMore

set_option maxHeartbeats 1000000 in
theorem natOf_calls (A : Option Addr) (c : Nat) (l : List Int) (w : World) (hr : (Kd.int .u32).C w A l.length l) (hc : l.length ≤ c) :
    Calls Try.prog 50 #[.slice A l.length c] w fun e w' => e = .returned (.slice A (trimN l) c) ∧ Below w.heap.size w w' := by
  have HC := Aside0.mk hc
  have HR := Aside0.mk hr
  clear hr hc
  go_enter Try.func50, Try.ntmps50
  go_wp2_with fail
  refine (trim_calls _ A c l _ (Blk.new _ _ _) (Kd.C_below HR.out (below_alloc (Below.refl _ _) _)) HC.out).mono ?_
  rintro e w' ⟨rfl, hg, hb⟩
  have HB := Aside0.mk (pw_below_grown (below_alloc (Below.refl w.heap.size w) (.cells #[.slice A l.length c] 58)) _ (by simp) hg (by intro k hk; injection hk with hk; omega))
  clear hg hb
  go_wp2
  go_ret
  exact ⟨rfl, HB.out⟩

/-- The plain list of a number below 2^64. -/
def small64 (x : Int) : List Int := trimL [x % 4294967296, x / 4294967296]

theorem trim_two (a b : Int) (w : World) :
    Calls Try.prog 95 #[.pointer (some ⟨w.heap.size + 1, 0, none⟩)] ((w.alloc (.cells #[.int .u32 a, .int .u32 b] 49)).alloc (.cells #[.slice (some ⟨w.heap.size, 0, none⟩) 2 2] 58))
      fun e w' => ∃ v, e = .returned v ∧ (Kd.int .u32).R 49 w' w.heap.size (fun _ => True) v (trimL [a, b]) ∧ Below w.heap.size w w' := by
  have HO := show (Kd.int .u32).R 49 (w.alloc (.cells #[.int .u32 a, .int .u32 b] 49)) w.heap.size (fun k => k = w.heap.size) (.slice (some ⟨w.heap.size, 0, none⟩) 2 2) [a, b] from
    Kd.R_of_own (own_lit w w.heap.size 49 .u32 [a, b] (Nat.le_refl _) (by simp)) (fun k hk => by simpa [Value.ownBlock] using hk.symm)
  have hs : (w.alloc (.cells #[.int .u32 a, .int .u32 b] 49)).heap.size = w.heap.size + 1 := by simp
  have hbx := Blk.new (w.alloc (.cells #[.int .u32 a, .int .u32 b] 49)) 58 #[.slice (some ⟨w.heap.size, 0, none⟩) 2 2]
  rw [hs] at hbx
  refine (trim_calls (w.heap.size + 1) (some ⟨w.heap.size, 0, none⟩) 2 [a, b] _ hbx (Kd.C_below (Kd.R_reads' HO).2.2 (below_alloc (Below.refl _ _) _)) (Nat.le_refl _)).mono ?_
  rintro e w' ⟨rfl, hg, hb⟩
  refine ⟨_, rfl, Kd.R_mono (Kd.R_take (m := trimN [a, b]) (Kd.R_grown (Kd.R_alloc HO _) hg (by rintro k rfl h; injection h with h; omega)) (trimN_le _)) (fun _ _ => trivial), ?_⟩
  exact pw_below_grown (below_alloc (below_alloc (Below.refl w.heap.size w) _) _) _ (by simp; omega) hg (by intro k hk; injection hk with hk; omega)

set_option maxHeartbeats 1000000 in
theorem small_calls (x : Int) (h0 : 0 ≤ x) (h1 : x < 18446744073709551616) (w : World) :
    Calls Try.prog 97 #[.int .u64 x] w fun e w' => ∃ v, e = .returned v ∧ (Kd.int .u32).R 49 w' w.heap.size (fun _ => True) v (small64 x) ∧ Below w.heap.size w w' := by
  go_enter Try.func97, Try.ntmps97
  go_wp2_with fail
  refine (trim_two _ _ w).mono ?_
  rintro e w' ⟨v, rfl, ho, hb⟩
  have HO := Aside0.mk ho
  have HB := Aside0.mk hb
  clear ho hb
  go_wp2
  go_ret
  exact ⟨_, rfl, HO.out, HB.out⟩
end Go.Proofs.Ytjmgemmieedkiaa.Hand
