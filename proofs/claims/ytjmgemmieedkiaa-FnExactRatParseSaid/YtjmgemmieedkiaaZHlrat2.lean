/- The laws' marks on rationals: markRat and heldRat. Conditions: what is marked is the call's own; fewer than 2^32 marks. -/
import Derived.Test.YtjmgemmieedkiaaZHlrat
set_option linter.unusedVariables false
set_option linter.unusedSimpArgs false
namespace Go.Proofs.Ytjmgemmieedkiaa.Hand
open Go.RowKit Go.Proofs.YtjmgemmieedkiaaW.PrintWords Go.Proofs.YtjmgemmieedkiaaW.PrintLast Go.Proofs.YtjmgemmieedkiaaW.PrintMore
/-- What markRat leaves. -/
def markR (k : Nat) (r : Rt) : Rt := ⟨r.neg, markL k r.num.length, markL (k + r.num.length) r.den.length⟩
theorem blk_kept2 {w w' : World} {g : Nat} {t : TypeId} {cs : Array Value} {S : Nat → Prop} (h : Blk w g t cs) (hk : Kept w w' S) (hn : ¬ S g) : Blk w' g t cs := blk_kept h hk hn
theorem markQ_K {s : Bool} {A B : Option Addr} {n c m d : Nat} (base : Nat) (ok : Nat → Prop) (r : Rt) (k : Nat) (K R : Int) (w : World) (hr : ratK.M w base ok r [.bool s, .slice A n c, .slice B m d]) (hb : base ≤ w.heap.size) (hK : K = (k : Int)) (hR : R = ((k + (r.num.length + r.den.length) : Nat) : Int)) (hk : k + (r.num.length + r.den.length) < 4294967296) :
    Calls Try.prog 34 #[.agg #[.bool s, .slice A n c, .slice B m d], .int .i64 K] w fun e w' => e = .returned (.int .i64 R) ∧ ratK.M w' base ok (markR k r) [.bool s, .slice A n c, .slice B m d] ∧ Below base w w' ∧ Kept w w' ok := by
  have hu := Try.underlying34
  obtain ⟨P, rfl, h1, h2⟩ := ratK_rows (Kd.M_mono _ (ok' := fun k => ok k ∧ k < w.heap.size) (fun k hk => ⟨hk.1, hk.2.2.1⟩) (ratK.M_bound hr))
  obtain ⟨A', c', e⟩ := Kd.R_slice h1
  injection e with e1 e2 e3
  subst e1 e2 e3
  obtain ⟨A', c', e⟩ := Kd.R_slice h2
  injection e with e1 e2 e3
  subst e1 e2 e3
  obtain ⟨s, l, l'⟩ := r
  simp only at h1 h2 hR hk ⊢
  obtain ⟨k1, hk1⟩ : ∃ k1 : Int, k1 = ((k + l.length : Nat) : Int) := ⟨_, rfl⟩
  have HK := Aside0.mk hK
  have HR := Aside0.mk hR
  have HK1 := Aside0.mk hk1
  have HBX := Aside0.mk (Blk.new w 34 #[.bool s, .slice A l.length c, .slice B l'.length d])
  have H1 := Aside0.mk (natK_made (Kd.R_alloc h1 (.cells #[.bool s, .slice A l.length c, .slice B l'.length d] 34)))
  have H2 := Aside0.mk (natK_made (Kd.R_alloc h2 (.cells #[.bool s, .slice A l.length c, .slice B l'.length d] 34)))
  have HBW := Aside0.mk (show Below base w (w.alloc (.cells #[.bool s, .slice A l.length c, .slice B l'.length d] 34)) from (Below.refl base w).alloc hb _)
  have HKW := Aside0.mk (Kept.alloc (Kept.refl w (fun k => ok k ∧ k < w.heap.size)) (.cells #[.bool s, .slice A l.length c, .slice B l'.length d] 34))
  clear hr h1 h2 hK hR hk1
  go_enter Try.func34, Try.ntmps34
  go_wp2_with fail
  refine (markN_K base _ l k K k1 _ H1.out (by simp; omega) HK.out HK1.out (by omega)).mono ?_
  rintro e w1 ⟨rfl, hm, hbe, hke⟩
  have HM1 := Aside0.mk hm
  have HM2 := Aside0.mk (Kd.M_kept H2.out hke (fun k a b => a.2 b.2))
  have HB1 := Aside0.mk (HBW.out.trans hbe)
  have HK2 := Aside0.mk (HKW.out.then_ hke (fun k hk => .inl hk.1))
  have HBX1 := Aside0.mk (blk_kept2 HBX.out hke (fun h => by have := h.1.2; omega))
  obtain ⟨x0, x1, x2⟩ := box3 HBX1.out
  have hsz := hbe.size
  have hbs : base ≤ w1.heap.size := Nat.le_trans (by simp; omega) hke.1
  clear hm hbe hke H1 H2 HBX hsz
  go_wp2_with fail
  refine (markN_K base _ l' (k + l.length) k1 R _ HM2.out hbs HK1.out (by rw [HR.out, Nat.add_assoc]) (by omega)).mono ?_
  rintro e w2 ⟨rfl, hm, hbe, hke⟩
  have HM3 := Aside0.mk (Kd.M_kept HM1.out hke (fun k a b => b.2 a.2))
  have HM4 := Aside0.mk hm
  have HB2 := Aside0.mk (HB1.out.trans hbe)
  have HK3 := Aside0.mk (HK2.out.then_ hke (fun k hk => .inl hk.1))
  clear hm hbe hke
  go_wp2
  go_ret
  exact ⟨rfl, ratK_made2 HM3.out HM4.out (fun k h => h.1.1) (fun k h => h.1.1) (fun k a b => b.2 a.2), HB2.out, HK3.out.mono (fun k h => h.1)⟩
theorem heldQ_K {s : Bool} {A B : Option Addr} {n c m d : Nat} (r : Rt) (k : Nat) (K R : Int) (w : World) (hr : ratK.K w (markR k r) [.bool s, .slice A n c, .slice B m d]) (hK : K = (k : Int)) (hR : R = ((k + (r.num.length + r.den.length) : Nat) : Int)) (hk : k + (r.num.length + r.den.length) < 4294967296) :
    Calls Try.prog 35 #[.agg #[.bool s, .slice A n c, .slice B m d], .int .i64 K] w fun e w' => e = .returned (.int .i64 R) ∧ Below w.heap.size w w' := by
  have hu := Try.underlying34
  obtain ⟨A1, c1, B1, d1, e, k1, k2, k3, k4⟩ := ratK_form hr
  obtain ⟨s0, l, l'⟩ := r
  unfold markR at e k1 k2 k3 k4
  simp only [List.cons.injEq, Value.slice.injEq, Value.bool.injEq, and_true] at e k1 k2 k3 k4 hR hk
  obtain ⟨rfl, ⟨rfl, rfl, rfl⟩, rfl, rfl, rfl⟩ := e
  have H1 := Aside0.mk (natK_of k1 k2)
  have H2 := Aside0.mk (natK_of k3 k4)
  clear hr k1 k2 k3 k4
  obtain ⟨n, hn⟩ : ∃ n, n = (markL k l.length).length := ⟨_, rfl⟩
  obtain ⟨m, hm⟩ : ∃ m, m = (markL (k + l.length) l'.length).length := ⟨_, rfl⟩
  rw [← hn] at H1 ⊢
  rw [← hm] at H2 ⊢
  obtain ⟨k1, hk1⟩ : ∃ k1 : Int, k1 = ((k + l.length : Nat) : Int) := ⟨_, rfl⟩
  have HK := Aside0.mk hK
  have HR := Aside0.mk hR
  have HK1 := Aside0.mk hk1
  have k10 : decide (k1 < 0) = false := decide_eq_false (by omega)
  have r10 : decide (R < 0) = false := decide_eq_false (by omega)
  have HBX := Aside0.mk (Blk.new w 34 #[.bool s, .slice A n c, .slice B m d])
  have HBW := Aside0.mk (below_alloc (Below.refl w.heap.size w) (.cells #[.bool s, .slice A n c, .slice B m d] 34))
  clear hK hR hk1 hn hm
  go_enter Try.func35, Try.ntmps35
  go_wp2_with fail
  refine (heldN_K l k K k1 _ (natK.K_below HBW.out H1.out) HK.out HK1.out (by omega)).mono ?_
  rintro e w1 ⟨rfl, hb⟩
  have HB1 := Aside0.mk (HBW.out.trans (hb.mono HBW.out.size))
  obtain ⟨x0, x1, x2⟩ := box3 (HBX.out.below hb HBX.out.lt)
  clear hb
  go_wp2_with fail
  refine (heldN_K l' (k + l.length) k1 R _ (natK.K_below HB1.out H2.out) HK1.out (by rw [HR.out, Nat.add_assoc]) (by omega)).mono ?_
  rintro e w2 ⟨rfl, hb⟩
  have HB2 := Aside0.mk (HB1.out.trans (hb.mono HB1.out.size))
  clear hb
  go_wp2
  go_ret
  exact ⟨rfl, HB2.out⟩
end Go.Proofs.Ytjmgemmieedkiaa.Hand
