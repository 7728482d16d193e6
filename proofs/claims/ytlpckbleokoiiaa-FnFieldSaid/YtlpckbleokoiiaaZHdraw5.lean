/- The document's l1Spoil: a short triple stays short. Conditions: the triple can be read. -/
import Derived.Test.YtlpckbleokoiiaaZHdraw4
set_option linter.unusedVariables false
set_option linter.unusedSimpArgs false
namespace Go.Proofs.Ytlpckbleokoiiaa.Hand
open Go.RowKit Go.Proofs.YtlpckbleokoiiaaW.PrintWords Go.Proofs.YtlpckbleokoiiaaW.PrintLast Go.Proofs.YtlpckbleokoiiaaW.PrintMore
theorem store3c {w : World} {g z : Nat} {v0 v1 v2 x y u : Value} (h : w.cell? ⟨g, 0, none⟩ = some v0 ∧ w.cell? ⟨g, 1, none⟩ = some v1 ∧ w.cell? ⟨g, 2, none⟩ = some v2) (hz : g ≠ z) :
    (((w.setCell ⟨z, 0, none⟩ x).setCell ⟨z, 1, none⟩ y).setCell ⟨z, 2, none⟩ u).cell? ⟨g, 0, none⟩ = some v0 ∧ (((w.setCell ⟨z, 0, none⟩ x).setCell ⟨z, 1, none⟩ y).setCell ⟨z, 2, none⟩ u).cell? ⟨g, 1, none⟩ = some v1 ∧ (((w.setCell ⟨z, 0, none⟩ x).setCell ⟨z, 1, none⟩ y).setCell ⟨z, 2, none⟩ u).cell? ⟨g, 2, none⟩ = some v2 := by
  obtain ⟨h0, h1, h2⟩ := h
  have f : ∀ (i : Nat) (v : Value), w.cell? ⟨g, i, none⟩ = some v → (((w.setCell ⟨z, 0, none⟩ x).setCell ⟨z, 1, none⟩ y).setCell ⟨z, 2, none⟩ u).cell? ⟨g, i, none⟩ = some v := fun i v hv => by
    have hne : ∀ k : Nat, (⟨z, k, none⟩ : Addr) ≠ ⟨g, i, none⟩ := fun k e => hz (by injection e with e; exact e.symm)
    rw [World.cell?_setCell_other _ _ _ _ (hne 2), World.cell?_setCell_other _ _ _ _ (hne 1), World.cell?_setCell_other _ _ _ _ (hne 0)]
    exact hv
  exact ⟨f 0 _ h0, f 1 _ h1, f 2 _ h2⟩
theorem short_zero_num {k : Nat} {r : Rt} (h : Short k r) : Short (k + 1) ⟨r.neg, r.num ++ [0], r.den⟩ :=
  ⟨⟨h.1.1.append (Limbs.cons ⟨by omega, by omega⟩ Limbs.nil), h.1.2⟩, by simp; exact h.2.1, Nat.le_succ_of_le h.2.2⟩
theorem short_zero_den {k : Nat} {r : Rt} (h : Short k r) : Short (k + 1) ⟨r.neg, r.num, r.den ++ [0]⟩ :=
  ⟨⟨h.1.1, h.1.2.append (Limbs.cons ⟨by omega, by omega⟩ Limbs.nil)⟩, Nat.le_succ_of_le h.2.1, by simp; exact h.2.2⟩
theorem short_small {k : Nat} (s : Bool) (n : List Int) (d : List Int) (hn : Limbs n) (hd : Limbs d) (h1 : n.length ≤ k) (h2 : d.length ≤ k) : Short k ⟨s, n, d⟩ := ⟨⟨hn, hd⟩, h1, h2⟩
set_option maxHeartbeats 8000000 in
set_option maxRecDepth 100000 in
theorem spoil_calls {s : Bool} {A B : Option Addr} {n c m d : Nat} (r : Rt) (k : Int) (w : World) (hr : ratK.K w r [.bool s, .slice A n c, .slice B m d]) (hl : Short 11 r) (hk0 : 0 ≤ k) (hk1 : k ≤ 1000) :
    Calls Try.prog 80 #[.agg #[.bool s, .slice A n c, .slice B m d], .int .i64 k] w (ShortPost 13 w) := by
  have hu := Try.underlying26
  obtain ⟨A2, c2, B2, d2, e, _⟩ := ratK_form hr
  simp only [List.cons.injEq, Value.slice.injEq, Value.bool.injEq, and_true] at e
  obtain ⟨rfl, ⟨rfl, rfl, rfl⟩, rfl, rfl, rfl⟩ := e
  have HR := Aside0.mk hr
  have HL := Aside0.mk hl
  clear hr hl
  go_enter Try.func80, Try.ntmps80
  go_wp2_with fail
  have f0 := (Blk.new w 26 #[.bool r.neg, .slice A r.num.length c, .slice B r.den.length d]).alloc (.cells #[.bool false, .slice none 0 0, .slice none 0 0] 26)
  have f1 := Blk.new (w.alloc (.cells #[.bool r.neg, .slice A r.num.length c, .slice B r.den.length d] 26)) 26 #[.bool false, .slice none 0 0, .slice none 0 0]
  rw [show (w.alloc (.cells #[.bool r.neg, .slice A r.num.length c, .slice B r.den.length d] 26)).heap.size = w.heap.size + 1 from by simp] at f1
  have fb := below_alloc (below_alloc (Below.refl w.heap.size w) (.cells #[.bool r.neg, .slice A r.num.length c, .slice B r.den.length d] 26)) (.cells #[.bool false, .slice none 0 0, .slice none 0 0] 26)
  generalize ((w.alloc (.cells #[.bool r.neg, .slice A r.num.length c, .slice B r.den.length d] 26)).alloc (.cells #[.bool false, .slice none 0 0, .slice none 0 0] 26)) = W at f0 f1 fb ⊢
  have HZ0 := Aside0.mk f1
  have HB0 := Aside0.mk fb
  clear f0 f1 fb
  refine (l1Copy_K r _ (ratK.K_below HB0.out HR.out) (by have := HL.out.2; omega)).mono ?_
  rintro e w1 ⟨A1, c1, B1, d1, rfl, hM, hb⟩
  have HZ1 := Aside0.mk (HZ0.out.below hb HZ0.out.lt)
  have HB1 := Aside0.mk (HB0.out.trans (hb.mono HB0.out.size))
  have hlt0 := HZ0.out.lt
  obtain ⟨P, _, hN, hD⟩ := ratK_rows (ratK.M_bound hM)
  go_upto_region 2 with fail
  have hc := Blk.new w1 26 #[.bool r.neg, .slice A1 r.num.length c1, .slice B1 r.den.length d1]
  have hb2 := below_alloc (Below.refl w1.heap.size w1) (.cells #[.bool r.neg, .slice A1 r.num.length c1, .slice B1 r.den.length d1] 26)
  have HN := Aside0.mk (Kd.R_lower (Kd.R_below (Kd.R_mono hN (ok' := fun k => P k ∧ w.heap.size + 1 < k ∧ k < w1.heap.size) (fun k hk => ⟨hk.2, by have := hk.1.2.1; omega, hk.1.2.2.1⟩)) hb2) HB0.out.size)
  have HD := Aside0.mk (Kd.R_lower (Kd.R_below (Kd.R_mono hD (ok' := fun k => ¬ P k ∧ w.heap.size + 1 < k ∧ k < w1.heap.size) (fun k hk => ⟨hk.2, by have := hk.1.2.1; omega, hk.1.2.2.1⟩)) hb2) HB0.out.size)
  generalize w1.alloc (.cells #[.bool r.neg, .slice A1 r.num.length c1, .slice B1 r.den.length d1] 26) = w2 at hc hb2 HN HD ⊢
  have HC2 := Aside0.mk hc
  have HZ2 := Aside0.mk (HZ1.out.below hb2 HZ1.out.lt)
  have HB2 := Aside0.mk (HB1.out.trans (hb2.mono HB1.out.size))
  have hlt := HC2.out.lt
  have HO := Aside0.mk (And.intro (Nat.lt_of_lt_of_le HZ0.out.lt hb.size) (Nat.le_trans HB0.out.size hb.size))
  clear hM hb hN hD hc hb2 hlt0
  have hcase : ((k % 7 == 0) = true) ∨ ((k % 7 == 0) = false ∧ (k % 7 == 1) = true) ∨ ((k % 7 == 0) = false ∧ (k % 7 == 1) = false ∧ (k % 7 == 2) = true) ∨ ((k % 7 == 0) = false ∧ (k % 7 == 1) = false ∧ (k % 7 == 2) = false ∧ (k % 7 == 3) = true) ∨ ((k % 7 == 0) = false ∧ (k % 7 == 1) = false ∧ (k % 7 == 2) = false ∧ (k % 7 == 3) = false ∧ (k % 7 == 4) = true) ∨ ((k % 7 == 0) = false ∧ (k % 7 == 1) = false ∧ (k % 7 == 2) = false ∧ (k % 7 == 3) = false ∧ (k % 7 == 4) = false ∧ (k % 7 == 5) = true) ∨ ((k % 7 == 0) = false ∧ (k % 7 == 1) = false ∧ (k % 7 == 2) = false ∧ (k % 7 == 3) = false ∧ (k % 7 == 4) = false ∧ (k % 7 == 5) = false) := by
    simp only [beq_eq_false_iff_ne, beq_iff_eq]
    omega
  rcases hcase with g0 | ⟨e0, g1⟩ | ⟨e0, e1, g2⟩ | ⟨e0, e1, e2, g3⟩ | ⟨e0, e1, e2, e3, g4⟩ | ⟨e0, e1, e2, e3, e4, g5⟩ | ⟨e0, e1, e2, e3, e4, e5⟩
  · have hll : (r.num.length + 1) * 4 ≤ 140737488355328 := by have := HL.out.2; omega
    have HLL := Aside0.mk hll
    clear hll
    obtain ⟨x0, x1, x2⟩ := box3 HC2.out
    go_upto_region 4 with ((with_reducible refine gate_builtin (b := .append) (xs := #[.tmp 13, .tmp 14]) rfl ?_); at_builtin; refine Kd.R_append (Kd.int .u32) (w0 := w2) w.heap.size rfl (.tmp 13) (.tmp 14) 24 73 (.int .u32 0) 4 rfl Try.underlying24 infoU rfl (by decide) (by omega) (.slice A1 r.num.length c1) r.num 0 [.int .u32 0] (fun k => (P k ∧ w.heap.size + 1 < k ∧ k < w1.heap.size) ∨ w2.heap.size ≤ k) (fun _ => False) rfl rfl rfl (fun _ hk => hk.elim) (fun k hk => .inr hk) (Kd.R_mono HN.out (fun k hk => .inl hk)) (Below.refl _ _) HB2.out.size HLL.out ?_; intro v1 w3 ho hb hg hat; have HC3 := Aside0.mk (HC2.out.grown hg (R_blk_ne HN.out HC2.out (by decide)).symm); have HZ3 := Aside0.mk (HZ2.out.grown hg (R_blk_ne HN.out HZ2.out (by decide)).symm); have HG3 := Aside0.mk hg; have HB3 := Aside0.mk (HB2.out.trans hb); obtain ⟨A4, c4, rfl⟩ := Kd.R_slice ho; have HO3 := Aside0.mk ho; obtain ⟨⟨y0, y1, y2⟩, p0, p1, p2⟩ := bfacts HC3.out; clear ho hb hg hat x0 x1 x2)
    have ho3 := Kd.R_grown HD.out HG3.out (fun k hk e => hk.1 (HN.out.1 k e.symm).1)
    have hM3 := ratK_made2 (s := r.neg) (ok' := fun k => k ≠ w.heap.size + 1 ∧ k ≠ w1.heap.size) (natK_made HO3.out) (natK_made ho3) (fun k hk => by have := HO.out.1; rcases hk with hk | hk <;> (constructor <;> omega)) (fun k hk => by have := HO.out.1; constructor <;> omega) (fun k hk hk' => Or.elim hk (fun h => hk'.1 h.1) (fun h => by omega))
    clear ho3 y0 y1 y2 p0 p1 p2
    have HC4 := Aside0.mk (show Blk (w3.setCell ⟨w1.heap.size, 1, none⟩ (.slice A4 (r.num.length + 1) c4)) w1.heap.size 26 #[.bool r.neg, .slice A4 (r.num.length + 1) c4, .slice B1 r.den.length d1] from HC3.out.set_ 1 (.slice A4 (r.num.length + 1) c4))
    have HZ4 := Aside0.mk (HZ3.out.far (p := ⟨w1.heap.size, 1, none⟩) (by have := HO.out.1; show w.heap.size + 1 ≠ w1.heap.size; omega) (.slice A4 (r.num.length + 1) c4))
    have HB4 := Aside0.mk (HB3.out.setCell (p := ⟨w1.heap.size, 1, none⟩) (by have := HO.out.1; show w.heap.size ≤ w1.heap.size; omega) (.slice A4 (r.num.length + 1) c4))
    have HM4 := Aside0.mk (Kd.M_mono _ (ok' := fun k => k ≠ w.heap.size + 1) (fun k hk => hk.1) (Kd.M_far hM3 (p := ⟨w1.heap.size, 1, none⟩) (fun k hk => hk.2) (.slice A4 (r.num.length + 1) c4)))
    clear hM3 hlt
    generalize w3.setCell ⟨w1.heap.size, 1, none⟩ (.slice A4 (r.num.length + 1) c4) = w4 at HC4 HZ4 HB4 HM4 ⊢
    obtain ⟨x0, x1, x2⟩ := box3 HC4.out
    obtain ⟨⟨z0, z1, z2⟩, q0, q1, q2⟩ := bfacts HZ4.out
    go_wp2
    refine bodyPost_ret (ret_rat Try.results80 _ _ (w.heap.size + 1) _ _ _ rfl (store3 HZ4.out)) rfl ?_
    exact ⟨⟨r.neg, r.num ++ [0], r.den⟩, A4, c4, B1, d1, by simp, short_zero_num ⟨HL.out.1, Nat.le_succ_of_le HL.out.2.1, Nat.le_succ_of_le HL.out.2.2⟩, Kd.M_mono _ (fun _ _ => trivial) (far3 HM4.out (fun k hk => hk)), below3 HB4.out (by omega)⟩
  · have hll : (r.den.length + 1) * 4 ≤ 140737488355328 := by have := HL.out.2; omega
    have HLL := Aside0.mk hll
    clear hll
    obtain ⟨x0, x1, x2⟩ := box3 HC2.out
    go_upto_region 7 with ((with_reducible refine gate_builtin (b := .append) (xs := #[.tmp 22, .tmp 23]) rfl ?_); at_builtin; refine Kd.R_append (Kd.int .u32) (w0 := w2) w.heap.size rfl (.tmp 22) (.tmp 23) 24 73 (.int .u32 0) 4 rfl Try.underlying24 infoU rfl (by decide) (by omega) (.slice B1 r.den.length d1) r.den 0 [.int .u32 0] (fun k => (¬ P k ∧ w.heap.size + 1 < k ∧ k < w1.heap.size) ∨ w2.heap.size ≤ k) (fun _ => False) rfl rfl rfl (fun _ hk => hk.elim) (fun k hk => .inr hk) (Kd.R_mono HD.out (fun k hk => .inl hk)) (Below.refl _ _) HB2.out.size HLL.out ?_; intro v1 w3 ho hb hg hat; have HC3 := Aside0.mk (HC2.out.grown hg (R_blk_ne HD.out HC2.out (by decide)).symm); have HZ3 := Aside0.mk (HZ2.out.grown hg (R_blk_ne HD.out HZ2.out (by decide)).symm); have HG3 := Aside0.mk hg; have HB3 := Aside0.mk (HB2.out.trans hb); obtain ⟨A4, c4, rfl⟩ := Kd.R_slice ho; have HO3 := Aside0.mk ho; obtain ⟨⟨y0, y1, y2⟩, p0, p1, p2⟩ := bfacts HC3.out; clear ho hb hg hat x0 x1 x2)
    have ho3 := Kd.R_grown HN.out HG3.out (fun k hk e => (HD.out.1 k e.symm).1 hk.1)
    have hM3 := ratK_made2 (s := r.neg) (ok' := fun k => k ≠ w.heap.size + 1 ∧ k ≠ w1.heap.size) (natK_made ho3) (natK_made HO3.out) (fun k hk => by have := HO.out.1; constructor <;> omega) (fun k hk => by have := HO.out.1; rcases hk with hk | hk <;> (constructor <;> omega)) (fun k hk' hk => Or.elim hk (fun h => h.1 hk'.1) (fun h => by omega))
    clear ho3 y0 y1 y2 p0 p1 p2
    have HC4 := Aside0.mk (show Blk (w3.setCell ⟨w1.heap.size, 2, none⟩ (.slice A4 (r.den.length + 1) c4)) w1.heap.size 26 #[.bool r.neg, .slice A1 r.num.length c1, .slice A4 (r.den.length + 1) c4] from HC3.out.set_ 2 (.slice A4 (r.den.length + 1) c4))
    have HZ4 := Aside0.mk (HZ3.out.far (p := ⟨w1.heap.size, 2, none⟩) (by have := HO.out.1; show w.heap.size + 1 ≠ w1.heap.size; omega) (.slice A4 (r.den.length + 1) c4))
    have HB4 := Aside0.mk (HB3.out.setCell (p := ⟨w1.heap.size, 2, none⟩) (by have := HO.out.1; show w.heap.size ≤ w1.heap.size; omega) (.slice A4 (r.den.length + 1) c4))
    have HM4 := Aside0.mk (Kd.M_mono _ (ok' := fun k => k ≠ w.heap.size + 1) (fun k hk => hk.1) (Kd.M_far hM3 (p := ⟨w1.heap.size, 2, none⟩) (fun k hk => hk.2) (.slice A4 (r.den.length + 1) c4)))
    clear hM3 hlt
    generalize w3.setCell ⟨w1.heap.size, 2, none⟩ (.slice A4 (r.den.length + 1) c4) = w4 at HC4 HZ4 HB4 HM4 ⊢
    obtain ⟨x0, x1, x2⟩ := box3 HC4.out
    obtain ⟨⟨z0, z1, z2⟩, q0, q1, q2⟩ := bfacts HZ4.out
    go_wp2
    refine bodyPost_ret (ret_rat Try.results80 _ _ (w.heap.size + 1) _ _ _ rfl (store3 HZ4.out)) rfl ?_
    exact ⟨⟨r.neg, r.num, r.den ++ [0]⟩, A1, c1, A4, c4, by simp, short_zero_den ⟨HL.out.1, Nat.le_succ_of_le HL.out.2.1, Nat.le_succ_of_le HL.out.2.2⟩, Kd.M_mono _ (fun _ _ => trivial) (far3 HM4.out (fun k hk => hk)), below3 HB4.out (by omega)⟩
  · obtain ⟨⟨x0, x1, x2⟩, p0, p1, p2⟩ := bfacts HC2.out
    go_upto_region 10 with fail
    have hcs := show Blk (w2.setCell ⟨w1.heap.size, 2, none⟩ (.slice (some ⟨w2.heap.size, 0, none⟩) 0 0)) w1.heap.size 26 #[.bool r.neg, .slice A1 r.num.length c1, .slice (some ⟨w2.heap.size, 0, none⟩) 0 0] from HC2.out.set_ 2 (.slice (some ⟨w2.heap.size, 0, none⟩) 0 0)
    have hzs := HZ2.out.far (p := ⟨w1.heap.size, 2, none⟩) (by have := HO.out.1; show w.heap.size + 1 ≠ w1.heap.size; omega) (.slice (some ⟨w2.heap.size, 0, none⟩) 0 0)
    have hbs := HB2.out.setCell (p := ⟨w1.heap.size, 2, none⟩) (by have := HO.out.1; show w.heap.size ≤ w1.heap.size; omega) (.slice (some ⟨w2.heap.size, 0, none⟩) 0 0)
    have hns := Kd.R_far HN.out (p := ⟨w1.heap.size, 2, none⟩) (fun k hk => by show k ≠ w1.heap.size; omega) (.slice (some ⟨w2.heap.size, 0, none⟩) 0 0)
    have hss : (w2.setCell ⟨w1.heap.size, 2, none⟩ (.slice (some ⟨w2.heap.size, 0, none⟩) 0 0)).heap.size = w2.heap.size := by simp [size_setCell]
    generalize (w2.setCell ⟨w1.heap.size, 2, none⟩ (.slice (some ⟨w2.heap.size, 0, none⟩) 0 0)) = ws at hcs hzs hbs hns hss ⊢
    have ho3 := show (Kd.int .u32).R 73 (ws.alloc (.cells #[] 73)) w.heap.size (fun k => k = ws.heap.size) (.slice (some ⟨ws.heap.size, 0, none⟩) 0 0) [] from Kd.R_of_own (own_lit ws w.heap.size 73 .u32 [] hbs.size (by simp)) (fun k hk => by simpa [Value.ownBlock] using hk.symm)
    rw [hss] at ho3
    have hb3 := below_alloc (Below.refl ws.heap.size ws) (.cells #[] 73)
    have hn3 := Kd.R_below hns hb3
    have HC4 := Aside0.mk (hcs.below hb3 hcs.lt)
    have HZ4 := Aside0.mk (hzs.below hb3 hzs.lt)
    have HB4 := Aside0.mk (hbs.trans (hb3.mono hbs.size))
    have hM3 := ratK_made2 (s := r.neg) (ok' := fun k => k ≠ w.heap.size + 1) (natK_made hn3) (natK_made ho3) (fun k hk => by have := HO.out.1; omega) (fun k hk => by have := HO.out.1; have := HC2.out.lt; omega) (fun k hk hk' => by have := HC2.out.lt; omega)
    have HM4 := Aside0.mk hM3
    clear hcs hzs hbs hns ho3 hn3 hM3 hlt x0 x1 x2 p0 p1 p2 hb3
    generalize ws.alloc (.cells #[] 73) = w4 at HC4 HZ4 HB4 HM4 ⊢
    clear hss
    obtain ⟨x0, x1, x2⟩ := box3 HC4.out
    obtain ⟨⟨z0, z1, z2⟩, q0, q1, q2⟩ := bfacts HZ4.out
    go_wp2
    refine bodyPost_ret (ret_rat Try.results80 _ _ (w.heap.size + 1) _ _ _ rfl (store3 HZ4.out)) rfl ?_
    exact ⟨⟨r.neg, r.num, []⟩, _, _, _, _, rfl, short_small _ _ _ HL.out.1.1 (Limbs.nil) (by have := HL.out.2.1; omega) (by simp), Kd.M_mono _ (fun _ _ => trivial) (far3 HM4.out (fun k hk => hk)), below3 HB4.out (by omega)⟩
  · obtain ⟨⟨x0, x1, x2⟩, p0, p1, p2⟩ := bfacts HC2.out
    go_upto_region 13 with fail
    have hcs := show Blk (w2.setCell ⟨w1.heap.size, 2, none⟩ (.slice (some ⟨w2.heap.size, 0, none⟩) 1 1)) w1.heap.size 26 #[.bool r.neg, .slice A1 r.num.length c1, .slice (some ⟨w2.heap.size, 0, none⟩) 1 1] from HC2.out.set_ 2 (.slice (some ⟨w2.heap.size, 0, none⟩) 1 1)
    have hzs := HZ2.out.far (p := ⟨w1.heap.size, 2, none⟩) (by have := HO.out.1; show w.heap.size + 1 ≠ w1.heap.size; omega) (.slice (some ⟨w2.heap.size, 0, none⟩) 1 1)
    have hbs := HB2.out.setCell (p := ⟨w1.heap.size, 2, none⟩) (by have := HO.out.1; show w.heap.size ≤ w1.heap.size; omega) (.slice (some ⟨w2.heap.size, 0, none⟩) 1 1)
    have hns := Kd.R_far HN.out (p := ⟨w1.heap.size, 2, none⟩) (fun k hk => by show k ≠ w1.heap.size; omega) (.slice (some ⟨w2.heap.size, 0, none⟩) 1 1)
    have hss : (w2.setCell ⟨w1.heap.size, 2, none⟩ (.slice (some ⟨w2.heap.size, 0, none⟩) 1 1)).heap.size = w2.heap.size := by simp [size_setCell]
    generalize (w2.setCell ⟨w1.heap.size, 2, none⟩ (.slice (some ⟨w2.heap.size, 0, none⟩) 1 1)) = ws at hcs hzs hbs hns hss ⊢
    have ho3 := show (Kd.int .u32).R 73 (ws.alloc (.cells #[.int .u32 0] 73)) w.heap.size (fun k => k = ws.heap.size) (.slice (some ⟨ws.heap.size, 0, none⟩) 1 1) [0] from Kd.R_of_own (own_lit ws w.heap.size 73 .u32 [0] hbs.size (by simp)) (fun k hk => by simpa [Value.ownBlock] using hk.symm)
    rw [hss] at ho3
    have hb3 := below_alloc (Below.refl ws.heap.size ws) (.cells #[.int .u32 0] 73)
    have hn3 := Kd.R_below hns hb3
    have HC4 := Aside0.mk (hcs.below hb3 hcs.lt)
    have HZ4 := Aside0.mk (hzs.below hb3 hzs.lt)
    have HB4 := Aside0.mk (hbs.trans (hb3.mono hbs.size))
    have hM3 := ratK_made2 (s := r.neg) (ok' := fun k => k ≠ w.heap.size + 1) (natK_made hn3) (natK_made ho3) (fun k hk => by have := HO.out.1; omega) (fun k hk => by have := HO.out.1; have := HC2.out.lt; omega) (fun k hk hk' => by have := HC2.out.lt; omega)
    have HM4 := Aside0.mk hM3
    clear hcs hzs hbs hns ho3 hn3 hM3 hlt x0 x1 x2 p0 p1 p2 hb3
    generalize ws.alloc (.cells #[.int .u32 0] 73) = w4 at HC4 HZ4 HB4 HM4 ⊢
    clear hss
    obtain ⟨x0, x1, x2⟩ := box3 HC4.out
    obtain ⟨⟨z0, z1, z2⟩, q0, q1, q2⟩ := bfacts HZ4.out
    go_wp2
    refine bodyPost_ret (ret_rat Try.results80 _ _ (w.heap.size + 1) _ _ _ rfl (store3 HZ4.out)) rfl ?_
    exact ⟨⟨r.neg, r.num, [0]⟩, _, _, _, _, rfl, short_small _ _ _ HL.out.1.1 (Limbs.cons ⟨by omega, by omega⟩ Limbs.nil) (by have := HL.out.2.1; omega) (by simp), Kd.M_mono _ (fun _ _ => trivial) (far3 HM4.out (fun k hk => hk)), below3 HB4.out (by omega)⟩
  · clear hlt
    obtain ⟨⟨z0, z1, z2⟩, q0, q1, q2⟩ := bfacts (HZ2.out.below (below_alloc (below_alloc (Below.refl w2.heap.size w2) (.cells #[] 73)) (.cells #[.int .u32 1] 73)) HZ2.out.lt)
    have hz2 := HZ2.out.lt
    go_wp2
    have hb3 := below_alloc (below_alloc (Below.refl w2.heap.size w2) (.cells #[] 73)) (.cells #[.int .u32 1] 73)
    have h1 := show (Kd.int .u32).R 73 ((w2.alloc (.cells #[] 73)).alloc (.cells #[.int .u32 1] 73)) w.heap.size (fun k => k = w2.heap.size) (.slice (some ⟨w2.heap.size, 0, none⟩) 0 0) [] from Kd.R_alloc (Kd.R_of_own (ok := fun k => k = w2.heap.size) (own_lit w2 w.heap.size 73 .u32 [] HB2.out.size (by simp)) (fun k hk => by simpa [Value.ownBlock] using hk.symm)) (.cells #[.int .u32 1] 73)
    have h2 := show (Kd.int .u32).R 73 ((w2.alloc (.cells #[] 73)).alloc (.cells #[.int .u32 1] 73)) w.heap.size (fun k => k = (w2.alloc (.cells #[] 73)).heap.size) (.slice (some ⟨(w2.alloc (.cells #[] 73)).heap.size, 0, none⟩) 1 1) [1] from Kd.R_of_own (ok := fun k => k = (w2.alloc (.cells #[] 73)).heap.size) (own_lit (w2.alloc (.cells #[] 73)) w.heap.size 73 .u32 [1] (Nat.le_trans HB2.out.size (by simp)) (by simp)) (fun k hk => by simpa [Value.ownBlock] using hk.symm)
    rw [show (w2.alloc (.cells #[] 73)).heap.size = w2.heap.size + 1 from by simp] at h2
    have HZ3 := Aside0.mk (HZ2.out.below hb3 HZ2.out.lt)
    have HB3 := Aside0.mk (HB2.out.trans (hb3.mono HB2.out.size))
    have hM3 := ratK_made2 (s := true) (ok' := fun k => k ≠ w.heap.size + 1) (natK_made h1) (natK_made h2) (fun k hk => by omega) (fun k hk => by omega) (fun k hk hk' => by omega)
    generalize ((w2.alloc (.cells #[] 73)).alloc (.cells #[.int .u32 1] 73)) = w3 at HZ3 HB3 hM3 ⊢
    refine bodyPost_ret (ret_rat Try.results80 _ _ (w.heap.size + 1) _ _ _ rfl (store3 HZ3.out)) rfl ?_
    exact ⟨⟨true, [], [1]⟩, _, _, _, _, rfl, short_small _ _ _ Limbs.nil (Limbs.cons ⟨by omega, by omega⟩ Limbs.nil) (by simp) (by simp), Kd.M_mono _ (fun _ _ => trivial) (far3 hM3 (fun k hk => hk)), below3 HB3.out (by omega)⟩
  · have hq : 2 + k / 7 ≤ 200 := by omega
    have hq0 : 0 ≤ 2 + k / 7 := by omega
    have hw : IntKind.u64.wrap (2 + k / 7) = 2 + k / 7 := IntWalk.u64_in _ ⟨by omega, by omega⟩
    clear hlt
    go_wp2_with fail
    obtain ⟨y, hy⟩ : ∃ y, y = (2 + k / 7).toNat := ⟨_, rfl⟩
    have hx := l1BitsOf_calls (2 + k / 7) w2 (by omega) (by omega)
    rw [← hy] at hx
    have HYL : Aside0 ((bin y).length ≤ 8) := ⟨bin_length_le (Nat.lt_of_le_of_lt (show y ≤ 200 by omega) (by decide))⟩
    have HY : Aside0 (y ≤ 200) := ⟨by omega⟩
    refine hx.mono ?_
    rintro e w3 ⟨Af, cf, rfl, hof, hb⟩
    have HC3 := Aside0.mk (HC2.out.below hb HC2.out.lt)
    have HZ3 := Aside0.mk (HZ2.out.below hb HZ2.out.lt)
    have HB3 := Aside0.mk (HB2.out.trans (hb.mono HB2.out.size))
    have hnc := Kd.C_below (Kd.R_reads' HN.out).2.2 hb
    have hdc := Kd.C_below (Kd.R_reads' HD.out).2.2 hb
    have hfc := (Kd.R_reads' hof).2.2
    have HNC : Aside0 (∀ w', Below w3.heap.size w3 w' → (Kd.int .u32).C w' A1 r.num.length r.num) := ⟨fun w' h => Kd.C_below hnc h⟩
    have HDC : Aside0 (∀ w', Below w3.heap.size w3 w' → (Kd.int .u32).C w' B1 r.den.length r.den) := ⟨fun w' h => Kd.C_below hdc h⟩
    have HFC : Aside0 (∀ w', Below w3.heap.size w3 w' → Kd.bool.C w' Af (bin y).length (bin y)) := ⟨fun w' h => Kd.C_below hfc h⟩
    have HS3 : Aside0 (w.heap.size + 1 < w3.heap.size ∧ w1.heap.size ≠ w.heap.size + 1) := ⟨by have := HZ3.out.lt; have := HO.out.1; constructor <;> omega⟩
    have HBN : Aside0 ((bin (val r.num)).length ≤ 400) := ⟨Nat.le_trans (bin_val_length HL.out.1.1) (by have := HL.out.2; omega)⟩
    have HBD : Aside0 ((bin (val r.den)).length ≤ 400) := ⟨Nat.le_trans (bin_val_length HL.out.1.2) (by have := HL.out.2; omega)⟩
    have HMN : Aside0 ((bin (val r.num * y)).length ≤ 408) := ⟨bin_mul_le HBN.out HYL.out⟩
    have HMD : Aside0 ((bin (val r.den * y)).length ≤ 408) := ⟨bin_mul_le HBD.out HYL.out⟩
    have HLN : Aside0 ((lim (val r.num * y)).length ≤ 13) := ⟨lim_length_le (by have h1 := val_le_pow HL.out.1.1 HL.out.2.1; exact Nat.lt_of_lt_of_le (Nat.mul_lt_mul'' h1 (show y < 4294967296 ^ 1 by have := HY.out; omega)) (by decide))⟩
    have HLD : Aside0 ((lim (val r.den * y)).length ≤ 13) := ⟨lim_length_le (by have h1 := val_le_pow HL.out.1.2 HL.out.2.2; exact Nat.lt_of_lt_of_le (Nat.mul_lt_mul'' h1 (show y < 4294967296 ^ 1 by have := HY.out; omega)) (by decide))⟩
    have HLA : Aside0 (Limbs r.num ∧ r.num.length ≤ 11) := ⟨HL.out.1.1, HL.out.2.1⟩
    have HLB : Aside0 (Limbs r.den ∧ r.den.length ≤ 11) := ⟨HL.out.1.2, HL.out.2.2⟩
    clear hx hof hb hnc hdc hfc hy hq hq0 hw
    obtain ⟨x0, x1, x2⟩ := box3 HC3.out
    go_wp2_with fail
    have hBW := Below.refl w3.heap.size w3
    have H6 : Aside0 (∀ w', Below w3.heap.size w3 w' → w'.cell? ⟨w1.heap.size, 0, none⟩ = some (.bool r.neg) ∧ w'.cell? ⟨w1.heap.size, 1, none⟩ = some (.slice A1 r.num.length c1) ∧ w'.cell? ⟨w1.heap.size, 2, none⟩ = some (.slice B1 r.den.length d1)) := ⟨fun w' h => ⟨pw_cell_below h x0, pw_cell_below h x1, pw_cell_below h x2⟩⟩
    go_region_held3 (fun w' => w'.cell? ⟨w1.heap.size, 0, none⟩ = some (.bool r.neg) ∧ w'.cell? ⟨w1.heap.size, 1, none⟩ = some (.slice A1 r.num.length c1) ∧ w'.cell? ⟨w1.heap.size, 2, none⟩ = some (.slice B1 r.den.length d1))
      ((first | exact H6.out _ (below_drew hBW) | exact H6.out _ hBa | exact H6.out _ hBb | exact H6.out _ hBc | exact H6.out _ hBd | exact H6.out _ hBe | exact H6.out _ hBg | exact store3c (H6.out _ hBg) HS3.out.2))
      (first | (go_at_call 40; (with_reducible refine (l1BitsX A1 c1 r.num _ (HNC.out _ (below_drew hBW)) HLA.out.1 (by have := HLA.out.2; omega)).mono ?_); rintro e wa ⟨Aa, ca, rfl, hoa, hba⟩; have hBa := heldB2 (below_drew hBW) hba) | (go_at_call 109; (with_reducible refine (l1MulX Aa Af ca cf (val r.num) y _ (Kd.R_reads' hoa).2.2 (HFC.out _ hBa) (by have := HBN.out; omega) (by have := HYL.out; omega)).mono ?_); rintro e wb ⟨Ab, cb, rfl, hob, hbb⟩; have hBb := heldB2 hBa hbb) | (go_at_call 112; (with_reducible refine (l1LimbsX Ab cb (val r.num * y) _ (Kd.R_reads' hob).2.2 (Kd.R_reads' hob).2.1 (by have := HMN.out; omega)).mono ?_); rintro e wc ⟨Ac, cc, rfl, hoc, hbc⟩; have hBc := heldB2 hBb hbc) | (go_at_call 40; (with_reducible refine (l1BitsX B1 d1 r.den _ (HDC.out _ hBc) HLB.out.1 (by have := HLB.out.2; omega)).mono ?_); rintro e wd ⟨Ad, cd, rfl, hod, hbd⟩; have hBd := heldB2 hBc hbd) | (go_at_call 109; (with_reducible refine (l1MulX Ad Af cd cf (val r.den) y _ (Kd.R_reads' hod).2.2 (HFC.out _ hBd) (by have := HBD.out; omega) (by have := HYL.out; omega)).mono ?_); rintro e we ⟨Ae, ce, rfl, hoe, hbe⟩; have hBe := heldB2 hBd hbe) | (go_at_call 112; (with_reducible refine (l1LimbsX Ae ce (val r.den * y) _ (Kd.R_reads' hoe).2.2 (Kd.R_reads' hoe).2.1 (by have := HMD.out; omega)).mono ?_); rintro e wg ⟨Ag, cg, rfl, hog, hbg⟩; have hBg := heldB2 hBe hbg; obtain ⟨⟨z0, z1, z2⟩, u0, u1, u2⟩ := bfacts (HZ3.out.below hBg HZ3.out.lt)))
    all_goals
      have hM := two_rows (base := w.heap.size) r.neg hoc hog ((hbd.trans (hbe.mono hbd.size)).trans (hbg.mono (hbd.trans (hbe.mono hbd.size)).size)) (hbd.trans (hbe.mono hbd.size)).size (Nat.le_trans HB3.out.size hBb.size) (Nat.le_trans HB3.out.size hBe.size)
      have hs1 := hBb.size
      have hs2 := hBe.size
      have hs3 := HS3.out.1
      clear x0 x1 x2
      go_wp2
      refine bodyPost_ret (ret_rat Try.results80 _ _ (w.heap.size + 1) _ _ _ rfl (store3 (HZ3.out.below hBg HZ3.out.lt))) rfl ?_
      exact ⟨⟨r.neg, lim (val r.num * y), lim (val r.den * y)⟩, _, _, _, _, rfl, short_small _ _ _ (limbs_lim _) (limbs_lim _) HLN.out HLD.out, Kd.M_mono _ (fun _ _ => trivial) (far3 hM (fun k hk => by omega)), below3 (HB3.out.trans (hBg.mono HB3.out.size)) (by omega)⟩
  · clear hlt
    have hq : 2 + k / 7 ≤ 200 := by omega
    have hq0 : 0 ≤ 2 + k / 7 := by omega
    have hw : IntKind.u32.wrap (2 + k / 7) = 2 + k / 7 := IntWalk.u32_in _ ⟨by omega, by omega⟩
    obtain ⟨⟨z0, z1, z2⟩, q0, q1, q2⟩ := bfacts (HZ2.out.below (below_alloc (below_alloc (Below.refl w2.heap.size w2) (.cells #[] 73)) (.cells #[.int .u32 (2 + k / 7)] 73)) HZ2.out.lt)
    have hz2 := HZ2.out.lt
    go_wp2
    have hb3 := below_alloc (below_alloc (Below.refl w2.heap.size w2) (.cells #[] 73)) (.cells #[.int .u32 (2 + k / 7)] 73)
    have h1 := show (Kd.int .u32).R 73 ((w2.alloc (.cells #[] 73)).alloc (.cells #[.int .u32 (2 + k / 7)] 73)) w.heap.size (fun k => k = w2.heap.size) (.slice (some ⟨w2.heap.size, 0, none⟩) 0 0) [] from Kd.R_alloc (Kd.R_of_own (ok := fun k => k = w2.heap.size) (own_lit w2 w.heap.size 73 .u32 [] HB2.out.size (by simp)) (fun k hk => by simpa [Value.ownBlock] using hk.symm)) (.cells #[.int .u32 (2 + k / 7)] 73)
    have h2 := show (Kd.int .u32).R 73 ((w2.alloc (.cells #[] 73)).alloc (.cells #[.int .u32 (2 + k / 7)] 73)) w.heap.size (fun k => k = (w2.alloc (.cells #[] 73)).heap.size) (.slice (some ⟨(w2.alloc (.cells #[] 73)).heap.size, 0, none⟩) 1 1) [(2 + k / 7)] from Kd.R_of_own (ok := fun k => k = (w2.alloc (.cells #[] 73)).heap.size) (own_lit (w2.alloc (.cells #[] 73)) w.heap.size 73 .u32 [(2 + k / 7)] (Nat.le_trans HB2.out.size (by simp)) (by simp)) (fun k hk => by simpa [Value.ownBlock] using hk.symm)
    rw [show (w2.alloc (.cells #[] 73)).heap.size = w2.heap.size + 1 from by simp] at h2
    have HZ3 := Aside0.mk (HZ2.out.below hb3 HZ2.out.lt)
    have HB3 := Aside0.mk (HB2.out.trans (hb3.mono HB2.out.size))
    have hM3 := ratK_made2 (s := false) (ok' := fun k => k ≠ w.heap.size + 1) (natK_made h1) (natK_made h2) (fun k hk => by omega) (fun k hk => by omega) (fun k hk hk' => by omega)
    generalize ((w2.alloc (.cells #[] 73)).alloc (.cells #[.int .u32 (2 + k / 7)] 73)) = w3 at HZ3 HB3 hM3 ⊢
    refine bodyPost_ret (ret_rat Try.results80 _ _ (w.heap.size + 1) _ _ _ rfl (store3 HZ3.out)) rfl ?_
    exact ⟨⟨false, [], [(2 + k / 7)]⟩, _, _, _, _, rfl, short_small _ _ _ Limbs.nil (Limbs.cons ⟨by omega, by omega⟩ Limbs.nil) (by simp) (by simp), Kd.M_mono _ (fun _ _ => trivial) (far3 hM3 (fun k hk => hk)), below3 HB3.out (by omega)⟩
end Go.Proofs.Ytlpckbleokoiiaa.Hand
