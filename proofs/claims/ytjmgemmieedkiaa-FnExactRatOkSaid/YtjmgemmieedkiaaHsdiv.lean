/- The document's quotient and remainder of bit lists. Conditions: the lists can be read and have at most 2^45 bits each; the second has no zero bit at the end and is not empty. -/
import Derived.Test.YtjmgemmieedkiaaHssub
import Derived.Test.YtjmgemmieedkiaaHscmp
set_option linter.unusedVariables false
set_option linter.unusedSimpArgs false
namespace Go.Proofs.Ytjmgemmieedkiaa.Hand
open Go.RowKit Go.Proofs.YtjmgemmieedkiaaW.PrintWords Go.Proofs.YtjmgemmieedkiaaW.PrintLast Go.Proofs.YtjmgemmieedkiaaW.PrintMore

/-- A division, before bit g: what is left is r. -/
def DivBIn (a : List Bool) (b g r : Nat) (Q : List Bool) : Prop :=
  Q.length = a.length ∧ r < b ∧ bval (a.drop g) = bval (Q.drop g) * b + r ∧ ∀ k : Nat, k < g → rb Q (k : Int) = false
theorem divB_start (a : List Bool) {b : Nat} (hb : 0 < b) : DivBIn a b a.length 0 (List.replicate a.length false) := by
  refine ⟨by simp, hb, by simp [bval], fun k hk => ?_⟩
  rw [rb_lt (by simpa using hk)]
  simp
theorem divB_keep {a Q : List Bool} {b i r : Nat} (h : DivBIn a b (i + 1) r Q) (hi : i < a.length) (hlt : (rb a (i : Int)).toNat + 2 * r < b) : DivBIn a b i ((rb a (i : Int)).toNat + 2 * r) Q := by
  obtain ⟨h1, h2, h3, h4⟩ := h
  refine ⟨h1, hlt, ?_, fun k hk => h4 k (by omega)⟩
  rw [bval_drop a i hi, bval_drop Q i (by omega), h3, h4 i (by omega)]
  have : 2 * bval (Q.drop (i + 1)) * b = 2 * (bval (Q.drop (i + 1)) * b) := Nat.mul_assoc _ _ _
  simp only [Bool.toNat_false, Nat.zero_add]
  omega
theorem rb_set_ne {Q : List Bool} {i k : Nat} (x : Bool) (h : i ≠ k) : rb (Q.set i x) (k : Int) = rb Q (k : Int) := by
  unfold rb rdOf
  rw [Int.toNat_natCast, List.getD_eq_getElem?_getD, List.getD_eq_getElem?_getD, List.getElem?_set_ne h]
theorem rb_set_eq {Q : List Bool} {i : Nat} (x : Bool) (h : i < Q.length) : rb (Q.set i x) (i : Int) = x := by
  rw [rb_lt (by rw [List.length_set]; exact h), List.getElem_set_self]
theorem divB_put {a Q : List Bool} {b i r : Nat} (h : DivBIn a b (i + 1) r Q) (hi : i < a.length) (hge : b ≤ (rb a (i : Int)).toNat + 2 * r) : DivBIn a b i ((rb a (i : Int)).toNat + 2 * r - b) (Q.set i true) := by
  obtain ⟨h1, h2, h3, h4⟩ := h
  have hx := Bool.toNat_lt (rb a (i : Int))
  refine ⟨by rw [List.length_set, h1], by omega, ?_, fun k hk => by rw [rb_set_ne true (by omega)]; exact h4 k (by omega)⟩
  rw [bval_drop a i hi, bval_drop _ i (by rw [List.length_set]; omega), h3, rb_set_eq true (by omega), List.drop_set_of_lt (by omega)]
  have : (1 + 2 * bval (Q.drop (i + 1))) * b = b + 2 * (bval (Q.drop (i + 1)) * b) := by rw [Nat.add_mul, Nat.one_mul, Nat.mul_assoc]
  simp only [Bool.toNat_true]
  omega
theorem divB_end {a Q : List Bool} {b r : Nat} (h : DivBIn a b 0 r Q) : bval Q = bval a / b ∧ r = bval a % b := by
  obtain ⟨h1, h2, h3, h4⟩ := h
  rw [List.drop_zero, List.drop_zero] at h3
  have hb : 0 < b := by omega
  rw [h3, Nat.mul_comm]
  exact ⟨by rw [Nat.mul_add_div hb, Nat.div_eq_of_lt h2, Nat.add_zero], by rw [Nat.mul_add_mod, Nat.mod_eq_of_lt h2]⟩

/-- What the division hands back. -/
def DivBPost (base : Nat) (w0 : World) (q r : List Bool) (e : Ending) (w' : World) : Prop :=
  ∃ v1 v2, e = .returned (.tuple #[v1, v2]) ∧ Kd.bool.R 4 w' base (fun _ => True) v1 q ∧ Kd.bool.R 4 w' base (fun _ => True) v2 r ∧ Below base w0 w'

set_option maxHeartbeats 2000000 in
set_option maxRecDepth 100000 in
theorem l1DivBits_calls (A A' : Option Addr) (c c' : Nat) (l l' : List Bool) (w : World) (hr : Kd.bool.C w A l.length l) (hr' : Kd.bool.C w A' l'.length l') (hn : l.length ≤ 35184372088832) (hn' : l'.length ≤ 17592186044416) (hp' : BPlain l') (hne : l' ≠ []) :
    Calls Try.prog 52 #[.slice A l.length c, .slice A' l'.length c'] w (DivBPost w.heap.size w (bin (bval l / bval l')) (bin (bval l % bval l'))) := by
  have HR := Aside0.mk hr
  have HR' := Aside0.mk hr'
  have HP' := Aside0.mk hp'
  have hpos := bval_pos hp' hne
  clear hr hr' hp' hne
  have hmk : ∀ W : World, (Instr.makeSlice 55 (.int .i64 (l.length : Int)) (.int .i64 (l.length : Int))).run Try.prog W = .ok (.slice (some ⟨W.heap.size, 0, none⟩) l.length l.length) (W.alloc (.cells (madeCells #[.bool false] l.length) 4)) := by
    intro W
    exact print_make_of 55 4 (.bool false) 1 Try.underlying55 infoB rfl (by omega) _ (by omega) W
  have hQ := Aside0.mk (show Kd.bool.R 4 ((w.alloc (.cells (madeCells #[.bool false] l.length) 4)).alloc (.cells #[] 4)) w.heap.size (fun k => k = w.heap.size) (.slice (some ⟨w.heap.size, 0, none⟩) l.length l.length) (List.replicate l.length false) from
    Kd.R_alloc (Kd.R_of_own (own_made_of' (enc := Value.bool) (d := false) w w.heap.size 4 _ (Nat.le_refl _) (by omega)) (fun k hk => by simpa [Value.ownBlock] using hk.symm)) _)
  have hO := Aside0.mk (show Kd.bool.R 4 ((w.alloc (.cells (madeCells #[.bool false] l.length) 4)).alloc (.cells #[] 4)) w.heap.size (fun k => w.heap.size < k) (.slice (some ⟨w.heap.size + 1, 0, none⟩) 0 0) [] from by
    have h := own_lit_of (enc := Value.bool) (w.alloc (.cells (madeCells #[.bool false] l.length) 4)) w.heap.size 4 [] (by simp) (by simp)
    rw [show (w.alloc (.cells (madeCells #[.bool false] l.length) 4)).heap.size = w.heap.size + 1 from by simp] at h
    exact Kd.R_of_own h (fun k hk => by
      have : w.heap.size + 1 = k := by simpa [Value.ownBlock] using hk
      show w.heap.size < k
      omega))
  go_enter Try.func52, Try.ntmps52
  go_wp2
  go_loopg [7, 8] l.length (fun g v7 v8 w' => ∃ (r : Nat) (Q : List Bool), v8 = .int .i64 ((g : Int) - 1) ∧ Aside0 (g ≤ l.length) ∧ Aside0 (DivBIn l (bval l') g r Q) ∧ Aside0 (Kd.bool.R 4 w' w.heap.size (fun k => k = w.heap.size) (.slice (some ⟨w.heap.size, 0, none⟩) l.length l.length) Q) ∧ Aside0 (Kd.bool.R 4 w' w.heap.size (fun k => w.heap.size < k) v7 (bin r)) ∧ Aside0 (Below w.heap.size w w'))
  case atStart => exact ⟨0, _, by go_num, ⟨Nat.le_refl _⟩, ⟨divB_start l hpos⟩, hQ, by rw [bin_zero]; exact hO, ⟨below_alloc (below_alloc (Below.refl _ _) _) _⟩⟩
  case round =>
    clear hQ hO hmk
    obtain ⟨r, Q, rfl, HG, HD, HQ, HO, HB⟩ := hrel
    have hql := HD.out.1
    have hrlt := HD.out.2.1
    have hrl : (bin r).length ≤ l'.length := bin_length_le (by have := bval_lt l'; omega)
    obtain ⟨Ar, cr, rfl⟩ := Kd.R_slice HO.out
    cases gk with
    | zero =>
      obtain ⟨z, hz⟩ : ∃ z : Int, z = ((0 : Nat) : Int) - 1 := ⟨_, rfl⟩
      rw [← hz]
      have hzn : z < 0 := by omega
      have hzd : decide (0 ≤ z) = false := decide_eq_false (by omega)
      clear hz
      go_wp2_with fail
      have hbt := btrim_calls _ l.length Q _ (Kd.R_reads' HQ.out).2.2 (by omega)
      rw [hql] at hbt
      refine hbt.mono ?_
      rintro e w1 ⟨rfl, hd⟩
      have HB1 := Aside0.mk (HB.out.trans (hd.below.mono HB.out.size))
      have HQ1 := Aside0.mk (Kd.R_take (m := btrimN Q) (Kd.R_below HQ.out hd.below) (btrimN_le Q))
      have HO1 := Aside0.mk (Kd.R_below HO.out hd.below)
      clear hd hbt
      go_wp2
      go_ret2
      have he := divB_end HD.out
      rw [← he.1, ← he.2, ← btrim_eq]
      exact ⟨_, _, rfl, Kd.R_mono HQ1.out (fun _ _ => trivial), Kd.R_mono HO1.out (fun _ _ => trivial), HB1.out⟩
    | succ i =>
      have hil := HG.out
      rw [show ((i + 1 : Nat) : Int) - 1 = (i : Int) from by omega]
      have hc1 := bit_case HR.out HB.out i
      rcases hc1 with ⟨d1, q1, p1, ad, x, rfl, hx, hcx⟩ | ⟨d1, q1, p1, hx⟩
      case inr => omega
      have hs0 : w.heap.size < wr.heap.size := own_lt (Kd.own_of_R HQ.out) w.heap.size rfl
      obtain ⟨cq, fq⟩ := Kd.R_celln false HQ.out (i : Int) (by omega) (by omega)
      obtain ⟨rl, hrl2⟩ : ∃ rl, rl = bin r := ⟨_, rfl⟩
      rw [← hrl2] at HO hrl ⊢
      have HRL := Aside0.mk hrl2
      have HXE := Aside0.mk hx
      have HQL := Aside0.mk hql
      have HX := Aside0.mk (show Kd.bool.R 4 (wr.alloc (.cells #[.bool x] 4)) w.heap.size (fun k => w.heap.size < k) (.slice (some ⟨wr.heap.size, 0, none⟩) 1 1) [x] from
        Kd.R_of_own (own_lit_of (enc := Value.bool) wr w.heap.size 4 [x] HB.out.size (by simp)) (fun k hk => by
          have : wr.heap.size = k := by simpa [Value.ownBlock] using hk
          show w.heap.size < k
          omega))
      have hfr : ∀ k, (wr.alloc (.cells #[.bool x] 4)).heap.size ≤ k → w.heap.size < k := by
        intro k hk
        have h1 : wr.heap.size + 1 ≤ k := by simpa using hk
        omega
      have HFR := Aside0.mk hfr
      have HQ0 := Aside0.mk (Kd.R_alloc HQ.out (.cells #[.bool x] 4))
      have HO0 := Aside0.mk (Kd.R_alloc HO.out (.cells #[.bool x] 4))
      have HB0 := Aside0.mk (below_alloc HB.out (.cells #[.bool x] 4))
      clear hx hql hrl2 hfr HQ HO HB
      go_wp2_with ((with_reducible refine gate_builtin (b := .append) (xs := #[.tmp 26, .tmp 27]) rfl ?_); at_builtin; refine Kd.R_append_rows Kd.bool (w0 := w) w.heap.size rfl (.tmp 26) (.tmp 27) 55 4 (.bool false) 1 rfl Try.underlying55 infoB rfl (by decide) (by omega) _ [x] rl Ar rl.length cr (fun k => w.heap.size < k) (fun _ => False) rfl rfl HX.out (Kd.R_reads' HO0.out).2.2 (fun _ _ h => h) (fun _ h => h.elim) HFR.out HB0.out HB0.out.size (by simp; omega) ?_; intro v1 w1 ho hb hg hat; have HS1 := Aside0.mk ho; have HB1 := Aside0.mk hb; have HG1 := Aside0.mk hg; clear ho hb hg hat)
      obtain ⟨A1, c1, rfl⟩ := Kd.R_slice HS1.out
      have HQ1 := Aside0.mk (Kd.R_grown HQ0.out HG1.out (by rintro k rfl h; have h' : w.heap.size = wr.heap.size := Option.some.inj h; omega))
      clear HX HQ0 HO0 HB0 HG1
      refine (btrim_calls _ _ ([x] ++ rl) _ (Kd.R_reads' HS1.out).2.2 (Kd.R_reads' HS1.out).2.1).mono ?_
      rintro e w2 ⟨rfl, hd⟩
      have HB2 := Aside0.mk (HB1.out.trans (hd.below.mono HB1.out.size))
      have HQ2 := Aside0.mk (Kd.R_below HQ1.out hd.below)
      have ht := Kd.R_take (m := btrimN ([x] ++ rl)) (Kd.R_below HS1.out hd.below) (btrimN_le _)
      have hbs : bval ([x] ++ rl) = (rb l (i : Int)).toNat + 2 * r := by
        rw [HRL.out, HXE.out]
        show x.toNat + 2 * bval (bin r) = _
        rw [bval_bin]
      rw [btrim_eq, btrimN_length] at ht
      rw [btrimN_length]
      obtain ⟨T, hT⟩ : ∃ T, T = bin (bval ([x] ++ rl)) := ⟨_, rfl⟩
      rw [← hT] at ht ⊢
      have hTl : T.length ≤ l'.length + 1 := by
        rw [hT, hbs]
        apply bin_length_le
        have h1 := bval_lt l'
        have h2 := Bool.toNat_lt (rb l (i : Int))
        rw [Nat.pow_succ]
        omega
      have HT := Aside0.mk (show T = bin ((rb l (i : Int)).toNat + 2 * r) from by rw [hT, hbs])
      have HO2 := Aside0.mk ht
      clear hd ht hbs hT HS1 HB1 HQ1
      go_wp2_with fail
      refine (l1CmpBits_calls _ _ _ _ T l' _ (Kd.R_reads' HO2.out).2.2 (Kd.C_below HR'.out HB2.out) (by rw [HT.out]; exact bplain_bin _) HP'.out).mono ?_
      rintro e w3 ⟨rfl, hd⟩
      have HB3 := Aside0.mk (HB2.out.trans (hd.below.mono HB2.out.size))
      have HQ3 := Aside0.mk (Kd.R_below HQ2.out hd.below)
      have HO3 := Aside0.mk (Kd.R_below HO2.out hd.below)
      clear hd HB2 HQ2 HO2
      rw [show bval T = (rb l (i : Int)).toNat + 2 * r from by rw [HT.out, bval_bin]]
      rcases Nat.lt_or_ge ((rb l (i : Int)).toNat + 2 * r) (bval l') with hlt | hge
      · rw [cmpN_lt hlt]
        have HLT := Aside0.mk hlt
        clear hlt
        go_wp2
        go_roundg i
        case measure => omega
        case rel => exact ⟨_, Q, by go_num, ⟨by omega⟩, ⟨divB_keep HD.out (by omega) HLT.out⟩, HQ3, by rw [← HT.out]; exact HO3, HB3⟩
      · obtain ⟨cv, hcv, hcv0⟩ : ∃ cv : Int, cmpN ((rb l (i : Int)).toNat + 2 * r) (bval l') = cv ∧ 0 ≤ cv := by
          refine ⟨_, rfl, ?_⟩
          unfold cmpN
          rw [if_neg (by omega)]
          split <;> omega
        rw [hcv]
        have HGE := Aside0.mk hge
        have hsz : w.heap.size < w3.heap.size := own_lt (Kd.own_of_R HQ3.out) w.heap.size rfl
        clear hge hcv
        go_wp2_with fail
        refine (l1SubBits_calls _ _ _ _ T l' _ (Kd.R_reads' HO3.out).2.2 (Kd.C_below HR'.out HB3.out) (by omega) (by omega) (by rw [HT.out, bval_bin]; exact HGE.out)).mono ?_
        rintro e w4 ⟨v, rfl, ho, hb⟩
        obtain ⟨A4, c4, rfl⟩ := Kd.R_slice ho
        have HB4 := Aside0.mk (HB3.out.trans (hb.mono HB3.out.size))
        have HQ4 := Aside0.mk (Kd.R_below HQ3.out hb)
        have HO4 := Aside0.mk (Kd.R_lower (Kd.R_mono (Kd.R_bound ho) (fun k hk => by have := hk.2.1; show w.heap.size < k; omega)) HB3.out.size)
        obtain ⟨cq4, fq4⟩ := Kd.R_celln false HQ4.out (i : Int) (by omega) (by omega)
        rw [Int.toNat_natCast] at cq4 fq4
        clear ho hb HB3 HQ3 HO3
        go_wp2
        go_roundg i
        case measure => omega
        case rel =>
          have h1 := (Kd.R_putg HQ4.out (i : Int) true).1
          rw [Int.toNat_natCast] at h1
          have h2 : bval T = (rb l (i : Int)).toNat + 2 * r := by rw [HT.out, bval_bin]
          exact ⟨_, Q.set i true, by go_num, ⟨by omega⟩, ⟨divB_put HD.out (by omega) HGE.out⟩, ⟨h1⟩, ⟨by rw [← h2]; exact Kd.R_far HO4.out (fun k hk => by show k ≠ w.heap.size; omega) _⟩, ⟨below_set HB4.out (Nat.le_refl _)⟩⟩
end Go.Proofs.Ytjmgemmieedkiaa.Hand
