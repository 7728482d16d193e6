/- The function ok over a list of rationals. Conditions: the list can be read, its rationals' elements are limbs, and there are at most 2^40 of them in each. -/
import Derived.Test.YtlpckbleokoiiaaZHrat2
set_option linter.unusedVariables false
set_option linter.unusedSimpArgs false
namespace Go.Proofs.Ytlpckbleokoiiaa.Hand
open Go.RowKit Go.Proofs.YtlpckbleokoiiaaW.PrintWords Go.Proofs.YtlpckbleokoiiaaW.PrintLast Go.Proofs.YtlpckbleokoiiaaW.PrintMore
/-- Limbs, and not more than 2^40 of them. -/
def RtGood (r : Rt) : Prop := Limbs r.num ∧ Limbs r.den ∧ r.num.length ≤ 1099511627776 ∧ r.den.length ≤ 1099511627776
/-- Are all valid? -/
def okL : List Rt → Bool
  | [] => true
  | r :: rs => okR r && okL rs
theorem okL_drop {rs : List Rt} {i : Nat} (h : i < rs.length) : okL (rs.drop i) = (okR rs[i] && okL (rs.drop (i + 1))) := by
  rw [List.drop_eq_getElem_cons h, okL]
theorem RatOk_K (cs : List Value) (r : Rt) (b : Bool) (w : World) (hr : ratK.K w r cs) (hg : RtGood r) (hb : okR r = b) :
    Calls Try.prog 12 #[.agg cs.toArray] w fun e w' => e = .returned (.bool b) ∧ Below w.heap.size w w' := by
  obtain ⟨A, c, B, d, rfl, hc, h1, hd, h2⟩ := ratK_form hr
  exact RatOk_calls A B c d r b w h1 hc h2 hd hg.1 hg.2.1 hg.2.2.1 hg.2.2.2 hb
theorem C_elem {α : Type} {k : Kd α} {w : World} {A : Option Addr} {n : Nat} {xs : List α} (h : k.C w A n xs) {i : Nat} (hi : i < xs.length) :
    ∃ ad c, A = some ad ∧ c.length = k.sz ∧ k.K w xs[i] c ∧ ∀ j u, c[j]? = some u → w.cell? (ad.add (i * k.sz + j)) = some u := by
  obtain ⟨ad, c, e, hl, hK, hc⟩ := Kd.C_get h xs[i] (i : Int) (by omega) (by have := h.1; omega)
  rw [Int.toNat_natCast, List.getD_eq_getElem?_getD, List.getElem?_eq_getElem hi] at hK
  rw [Int.toNat_natCast] at hc
  exact ⟨ad, c, e, hl, hK, hc⟩
set_option maxHeartbeats 1000000 in
set_option maxRecDepth 100000 in
theorem ok_calls (A : Option Addr) (c : Nat) (rs : List Rt) (b : Bool) (w : World) (hr : ratK.C w A rs.length rs) (hg : ∀ r ∈ rs, RtGood r) (hb : okL rs = b) :
    Calls Try.prog 42 #[.slice A rs.length c] w fun e w' => e = .returned (.bool b) ∧ Below w.heap.size w w' := by
  have hu := Try.underlying26
  have HR := Aside0.mk hr
  have HG := Aside0.mk hg
  have hlen : rs.length ≤ 9223372036854775807 := hr.2.1
  have HBB := Aside0.mk hb
  clear hr hg hb
  go_enter Try.func42, Try.ntmps42
  go_wp2
  go_loopg [7] rs.length (fun g v7 w' => ∃ i : Nat, v7 = .int .i64 (i : Int) ∧ Aside0 (i + g = rs.length ∧ okL (rs.drop i) = b) ∧ Aside0 (Below w.heap.size w w'))
  case atStart => exact ⟨0, rfl, ⟨by omega, by rw [List.drop_zero]; exact HBB.out⟩, ⟨Below.refl _ _⟩⟩
  case round =>
    clear HBB
    obtain ⟨i, rfl, HI, HB⟩ := hrel
    by_cases hlt : i < rs.length
    · obtain ⟨ad, cs, eA, hcl, hK, hcell⟩ := C_elem (Kd.C_below HR.out HB.out) hlt
      subst eA
      obtain ⟨A1, c1, B1, d1, rfl, k1, h1, k2, h2⟩ := ratK_form hK
      have HK := Aside0.mk hK
      have HGI := Aside0.mk (HG.out _ (List.getElem_mem hlt))
      have hil : (i : Int) < (rs.length : Int) := by omega
      have y0 : wr.cell? (ad.add (i * 3)) = some _ := hcell 0 _ rfl
      have y1 : wr.cell? (ad.add (i * 3 + 1)) = some _ := hcell 1 _ rfl
      have y2 : wr.cell? (ad.add (i * 3 + 2)) = some _ := hcell 2 _ rfl
      rw [add_field _ _ _ (by omega)] at y1 y2
      have HBA := Aside0.mk (below_alloc HB.out (.cells #[.bool rs[i].neg, .slice A1 rs[i].num.length c1, .slice B1 rs[i].den.length d1] 26))
      have HKA := Aside0.mk (ratK.K_below (below_alloc (Below.refl wr.heap.size wr) (.cells #[.bool rs[i].neg, .slice A1 rs[i].num.length c1, .slice B1 rs[i].den.length d1] 26)) HK.out)
      clear hcell hK h1 h2 k1 k2 hcl HK
      obtain ⟨bi, hbi⟩ : ∃ bi, okR rs[i] = bi := ⟨_, rfl⟩
      have HBI := Aside0.mk hbi
      clear hbi
      cases bi
      · go_wp2_with fail
        refine (RatOk_K _ rs[i] false _ HKA.out HGI.out HBI.out).mono ?_
        rintro e w1 ⟨rfl, hb⟩
        have HB1 := Aside0.mk (HBA.out.trans (hb.mono HBA.out.size))
        clear hb
        go_wp2
        go_ret
        have hbf : b = false := by
          have := HI.out.2
          rw [okL_drop hlt, HBI.out] at this
          exact this.symm
        exact ⟨by rw [hbf]; rfl, HB1.out⟩
      · go_wp2_with fail
        refine (RatOk_K _ rs[i] true _ HKA.out HGI.out HBI.out).mono ?_
        rintro e w1 ⟨rfl, hb⟩
        have HB1 := Aside0.mk (HBA.out.trans (hb.mono HBA.out.size))
        clear hb
        go_wp2
        go_roundg (gk - 1)
        case measure => have := HI.out; omega
        case rel =>
          refine ⟨i + 1, by go_num, ⟨by have := HI.out; omega, ?_⟩, HB1⟩
          have := HI.out.2
          rw [okL_drop hlt, HBI.out] at this
          exact this
    · have hil : ¬ ((i : Int) < (rs.length : Int)) := by omega
      have hbt : b = true := by
        have := HI.out.2
        rw [List.drop_of_length_le (by omega)] at this
        exact this.symm
      have HBT := Aside0.mk hbt
      clear hbt
      go_wp2
      go_ret
      exact ⟨by rw [HBT.out]; rfl, HB.out⟩
end Go.Proofs.Ytlpckbleokoiiaa.Hand
