/- The laws' lwWhole, the document's l1Same and Same (where both are the same). Conditions: what is read can be read and has at most 2^40 limbs. -/
import Derived.Test.YtlpckbleokoiiaaZHscopy
import Derived.Test.YtlpckbleokoiiaaZHdraw1
set_option linter.unusedVariables false
set_option linter.unusedSimpArgs false
namespace Go.Proofs.Ytlpckbleokoiiaa.Hand
open Go.RowKit Go.Proofs.YtlpckbleokoiiaaW.PrintWords Go.Proofs.YtlpckbleokoiiaaW.PrintLast Go.Proofs.YtlpckbleokoiiaaW.PrintMore
set_option maxHeartbeats 2000000 in
set_option maxRecDepth 100000 in
theorem l1Same_calls (s : Bool) (l l' : List Int) (A B A' B' : Option Addr) (c d c' d' : Nat) (w : World) (h1 : (Kd.int .u32).C w A l.length l) (h2 : (Kd.int .u32).C w B l'.length l') (h1' : (Kd.int .u32).C w A' l.length l) (h2' : (Kd.int .u32).C w B' l'.length l') :
    Calls Try.prog 49 #[.agg #[.bool s, .slice A l.length c, .slice B l'.length d], .agg #[.bool s, .slice A' l.length c', .slice B' l'.length d']] w fun e w' => e = .returned (.bool true) ∧ Below w.heap.size w w' := by
  have hu := Try.underlying26
  have hl9 : l.length ≤ 9223372036854775807 := h1.2.1
  have hl9' : l'.length ≤ 9223372036854775807 := h2.2.1
  have f0 := (Blk.new w 26 #[.bool s, .slice A l.length c, .slice B l'.length d]).alloc (.cells #[.bool s, .slice A' l.length c', .slice B' l'.length d'] 26)
  have f1 := Blk.new (w.alloc (.cells #[.bool s, .slice A l.length c, .slice B l'.length d] 26)) 26 #[.bool s, .slice A' l.length c', .slice B' l'.length d']
  rw [show (w.alloc (.cells #[.bool s, .slice A l.length c, .slice B l'.length d] 26)).heap.size = w.heap.size + 1 from by simp] at f1
  have fb := below_alloc (below_alloc (Below.refl w.heap.size w) (.cells #[.bool s, .slice A l.length c, .slice B l'.length d] 26)) (.cells #[.bool s, .slice A' l.length c', .slice B' l'.length d'] 26)
  have hss : (s != s) = false := by simp
  have G1 := Aside0.mk h1
  have G2 := Aside0.mk h2
  have G1' := Aside0.mk h1'
  have G2' := Aside0.mk h2'
  clear h1 h2 h1' h2'
  go_enter Try.func49, Try.ntmps49
  go_upto_region 1 with fail
  generalize (w.alloc (.cells #[.bool s, .slice A l.length c, .slice B l'.length d] 26)).alloc (.cells #[.bool s, .slice A' l.length c', .slice B' l'.length d'] 26) = W at f0 f1 fb ⊢
  have HX := Aside0.mk f0
  have HY := Aside0.mk f1
  have HFB := Aside0.mk fb
  clear f0 f1 fb
  have HA := Aside0.mk (Kd.C_below G1.out HFB.out)
  have HB := Aside0.mk (Kd.C_below G2.out HFB.out)
  have HA' := Aside0.mk (Kd.C_below G1'.out HFB.out)
  have HB' := Aside0.mk (Kd.C_below G2'.out HFB.out)
  clear G1 G2 G1' G2'
  obtain ⟨x0, x1, x2⟩ := box3 HX.out
  obtain ⟨y0, y1, y2⟩ := box3 HY.out
  go_wp2
  go_loopg [5] l.length (fun q vi w' => ∃ i : Nat, vi = .int .i64 (i : Int) ∧ Aside0 (i + q = l.length) ∧ Aside0 (Below W.heap.size W w'))
  case atStart => exact ⟨0, rfl, ⟨by omega⟩, ⟨Below.refl _ _⟩⟩
  case round =>
    clear x0 x1 x2 y0 y1 y2
    obtain ⟨i, rfl, HI, HBW⟩ := hrel
    obtain ⟨x0, x1, x2⟩ := box3 (HX.out.below HBW.out HX.out.lt)
    obtain ⟨y0, y1, y2⟩ := box3 (HY.out.below HBW.out HY.out.lt)
    by_cases hlt : i < l.length
    · obtain ⟨ad, e1, hx⟩ := Kd.at_int (Kd.C_below HA.out HBW.out) (i : Int) (by omega) (by omega)
      subst e1
      obtain ⟨ad', e2, hy⟩ := Kd.at_int (Kd.C_below HA'.out HBW.out) (i : Int) (by omega) (by omega)
      subst e2
      rw [Int.toNat_natCast] at hx hy
      obtain ⟨x, hxe⟩ : ∃ x, x = rd l (i : Int) := ⟨_, rfl⟩
      rw [← hxe] at hx hy
      have hne : (x != x) = false := by simp
      have d1 : decide ((i : Int) < (l.length : Int)) = true := decide_eq_true (by omega)
      have d2 : decide (i < l.length) = true := decide_eq_true hlt
      have q1 : (i : Int) < (l.length : Int) := by omega
      clear hxe
      go_wp2
      go_quiet (fail)
      go_wp2
      go_roundg (gk - 1)
      case measure => have := HI.out; omega
      case rel => exact ⟨i + 1, by go_num, ⟨by have := HI.out; omega⟩, ⟨HBW.out.trans ((Drawn0.mk ⟨_, rfl⟩).below.mono HBW.out.size)⟩⟩
    · have d1 : decide ((i : Int) < (l.length : Int)) = false := decide_eq_false (by omega)
      have d2 : decide (i < l.length) = false := decide_eq_false hlt
      obtain ⟨wo, hwo⟩ : ∃ wo : World, wo = wr := ⟨_, rfl⟩
      subst hwo
      have HBO := HBW
      clear HBW
      go_wp2
      go_loopg [6] l'.length (fun q vi w' => ∃ i : Nat, vi = .int .i64 (i : Int) ∧ Aside0 (i + q = l'.length) ∧ Aside0 (Below W.heap.size W w'))
      case atStart => exact ⟨0, rfl, ⟨by omega⟩, HBO⟩
      case round =>
        clear HI hlt d1 d2 x0 x1 x2 y0 y1 y2
        obtain ⟨i, rfl, HI, HBW⟩ := hrel
        obtain ⟨x0, x1, x2⟩ := box3 (HX.out.below HBW.out HX.out.lt)
        obtain ⟨y0, y1, y2⟩ := box3 (HY.out.below HBW.out HY.out.lt)
        by_cases hlt : i < l'.length
        · obtain ⟨ad, e1, hx⟩ := Kd.at_int (Kd.C_below HB.out HBW.out) (i : Int) (by omega) (by omega)
          subst e1
          obtain ⟨ad', e2, hy⟩ := Kd.at_int (Kd.C_below HB'.out HBW.out) (i : Int) (by omega) (by omega)
          subst e2
          rw [Int.toNat_natCast] at hx hy
          obtain ⟨x, hxe⟩ : ∃ x, x = rd l' (i : Int) := ⟨_, rfl⟩
          rw [← hxe] at hx hy
          have hne : (x != x) = false := by simp
          have d1 : decide ((i : Int) < (l'.length : Int)) = true := decide_eq_true (by omega)
          have d2 : decide (i < l'.length) = true := decide_eq_true hlt
          have q1 : (i : Int) < (l'.length : Int) := by omega
          clear hxe
          go_wp2
          go_quiet (fail)
          go_wp2
          go_roundg (gk - 1)
          case measure => have := HI.out; omega
          case rel => exact ⟨i + 1, by go_num, ⟨by have := HI.out; omega⟩, ⟨HBW.out.trans ((Drawn0.mk ⟨_, rfl⟩).below.mono HBW.out.size)⟩⟩
        · have d1 : decide ((i : Int) < (l'.length : Int)) = false := decide_eq_false (by omega)
          have d2 : decide (i < l'.length) = false := decide_eq_false hlt
          go_wp2
          go_ret
          exact ⟨rfl, HFB.out.trans (HBW.out.mono HFB.out.size)⟩
theorem same_K {s s' : Bool} {A B A' B' : Option Addr} {n c m d n' c' m' d' : Nat} (r : Rt) (w : World) (hr : ratK.K w r [.bool s, .slice A n c, .slice B m d]) (hr' : ratK.K w r [.bool s', .slice A' n' c', .slice B' m' d']) :
    Calls Try.prog 13 #[.agg #[.bool s, .slice A n c, .slice B m d], .agg #[.bool s', .slice A' n' c', .slice B' m' d']] w fun e w' => e = .returned (.bool true) ∧ Below w.heap.size w w' := by
  have hu := Try.underlying26
  obtain ⟨A1, c1, B1, d1, e, k1, k2, k3, k4⟩ := ratK_form hr
  obtain ⟨A2, c2, B2, d2, e', k1', k2', k3', k4'⟩ := ratK_form hr'
  simp only [List.cons.injEq, Value.slice.injEq, Value.bool.injEq, and_true] at e e'
  obtain ⟨rfl, ⟨rfl, rfl, rfl⟩, rfl, rfl, rfl⟩ := e
  obtain ⟨rfl, ⟨rfl, rfl, rfl⟩, rfl, rfl, rfl⟩ := e'
  obtain ⟨s, l, l'⟩ := r
  have H1 := Aside0.mk k2
  have H2 := Aside0.mk k4
  have H1' := Aside0.mk k2'
  have H2' := Aside0.mk k4'
  simp only at H1 H2 H1' H2' ⊢
  have HB := Aside0.mk (below_alloc (below_alloc (Below.refl w.heap.size w) (.cells #[.bool s, .slice A l.length c, .slice B l'.length d] 26)) (.cells #[.bool s, .slice A' l.length c', .slice B' l'.length d'] 26))
  clear hr hr' k1 k2 k3 k4 k1' k2' k3' k4'
  go_enter Try.func13, Try.ntmps13
  go_wp2_with fail
  refine (l1Same_calls s l l' _ _ _ _ _ _ _ _ _ (Kd.C_below H1.out HB.out) (Kd.C_below H2.out HB.out) (Kd.C_below H1'.out HB.out) (Kd.C_below H2'.out HB.out)).mono ?_
  rintro e w1 ⟨rfl, hb⟩
  have HB1 := Aside0.mk (HB.out.trans (hb.mono HB.out.size))
  clear hb
  go_wp2
  go_ret
  exact ⟨rfl, HB1.out⟩
end Go.Proofs.Ytlpckbleokoiiaa.Hand
