/- Texts of one proof, one behind the other: each tells what it proves. -/
import Derived.Test.YtlpckbleokoiiaaCNetOk2
import Derived.Test.YtlpckbleokoiiaaCNetOk3
import Derived.Shelf.Small.Bits
import Derived.Shelf.Small.Wraps
import Derived.Ground.Names2Prog
import Derived.Shelf.Slices.SearchI
import Derived.Test.YtlpckbleokoiiaaProg

section
/- The function laws_eqNet of the program as a Lean function, and that the machine's call does what it says. Conditions: those of the theorem. -/
namespace Go.Proofs.Ytlpckbleokoiiaa.Print
open Go.RowKit Go.Proofs.YtlpckbleokoiiaaW.PrintWords Go.Proofs.YtlpckbleokoiiaaW.PrintLast Go.Proofs.YtlpckbleokoiiaaW.PrintMore
attribute [local go_sem] max2_int min2_int max_two min_two max_three min_three max_four min_four
set_option linter.unusedVariables false
set_option linter.unusedSimpArgs false
def laws_eqNet.f (k : Nat) (l0_0 : List (S81)) (l1_0 : List (S81)) : Option (Bool) := (laws_eqAffineS.f k l0_0 l1_0).bind fun t215 => (if t215 = true then (some true) else (some false))
theorem laws_eqNet.mono : ∀ a0 a1 k, LeO (laws_eqNet.f k a0 a1) (laws_eqNet.f (k + 1) a0 a1) := by
  intro a0 a1 k
  unfold laws_eqNet.f
  repeat' first
      | (with_reducible exact laws_eqAffineS.mono _ _ _)
      | (with_reducible exact LeO.refl _)
      | (with_reducible exact LeO.none _)
      | (with_reducible refine LeO.ite ?_ ?_)
      | (with_reducible refine LeO.bind ?_ (fun _ => ?_))
      | exact laws_eqAffineS.mono _ _ _
      | exact LeO.none _
      | refine LeO.ite ?_ ?_
      | refine LeO.bind ?_ (fun _ => ?_)
set_option maxHeartbeats 8000000 in
set_option maxRecDepth 100000 in
theorem laws_eqNet.calls (k : Nat) (A0_0 : Option Addr) (c0_0 : Nat) (l0_0 : List (S81)) (A1_0 : Option Addr) (c1_0 : Nat) (l1_0 : List (S81)) (r : Bool) (w : World) (hr0_0 : Kd.C k81 w A0_0 l0_0.length l0_0) (hc0_0 : l0_0.length ≤ c0_0) (hr1_0 : Kd.C k81 w A1_0 l1_0.length l1_0) (hc1_0 : l1_0.length ≤ c1_0) (h : laws_eqNet.f k l0_0 l1_0 = some r) :
    Calls Try.prog 22 #[.agg #[.slice A0_0 l0_0.length c0_0], .agg #[.slice A1_0 l1_0.length c1_0]] w fun e w' => e = .returned (.bool r) ∧ Below w.heap.size w w' := by
  have hu45 := Try.underlying45
  have HR0_0 := Aside0.mk hr0_0
  have HC0_0 := Aside0.mk hc0_0
  clear hr0_0 hc0_0
  have HR1_0 := Aside0.mk hr1_0
  have HC1_0 := Aside0.mk hc1_0
  clear hr1_0 hc1_0
  have HB := Aside0.mk (Below.refl w.heap.size w)
  have H : ((laws_eqAffineS.f k l0_0 l1_0).bind fun t215 => (if t215 = true then (some true) else (some false))) = some r := h
  clear h
  replace H := Option.bind_eq_some_iff.mp H
  obtain ⟨t215, A30, H⟩ := H
  replace H : (if t215 = true then (some true) else (some false)) = some r := H
  have A3 := Aside0.mk A30
  clear A30
  by_cases c4 : t215 = true
  · subst c4
    have H1 : (some true) = some r := by rw [if_pos rfl] at H; exact H
    clear H
    have H := H1
    clear H1
    obtain rfl := Option.some.inj H
    go_enter Try.func22, Try.ntmps22
    go_wp2_with (first | ((with_reducible refine gate_dst (N := 2) rfl ?_); refine box_event ?hg (N := 2) ?hd (cs := #[.slice A0_0 l0_0.length c0_0]) (t := 45) ?hr ?_; (case hd => rfl); (case hg => rfl); (case hr => first | (go_simp; done) | (go_simp; rfl)); intro gb213 hg w5 hbox hb; have n0_ := Aside0.mk (below_step (by repeat (first | (with_reducible first | exact HB.out | apply below_alloc | apply pw_below_drewN | apply below_drew1) | exact HB.out)) hb); have n1_ := Aside0.mk (hbox); have n2_ := Aside0.mk ((by rw [hg]; exact (below_size (by repeat (first | (with_reducible first | exact HB.out | apply below_alloc | apply pw_below_drewN | apply below_drew1) | exact HB.out))) : w.heap.size ≤ gb213)); have n3_ := Aside0.mk ((by rw [hg]; exact (below_size (by repeat (first | (with_reducible first | exact HB.out | apply below_alloc | apply pw_below_drewN | apply below_drew1) | exact HB.out))) : w.heap.size ≤ gb213)); clear HB; have HB := n0_; have BK213 := n1_; have GW213 := n2_; have GE213 := n3_; clear n0_ n1_ n2_ n3_; clear hb hbox hg) | ((with_reducible refine gate_dst (N := 3) rfl ?_); refine box_event ?hg (N := 3) ?hd (cs := #[.slice A1_0 l1_0.length c1_0]) (t := 45) ?hr ?_; (case hd => rfl); (case hg => rfl); (case hr => first | (go_simp; done) | (go_simp; rfl)); intro gb214 hg w6 hbox hb; have n0_ := Aside0.mk (blk_below (g := gb213) (o := .cells #[.slice A0_0 l0_0.length c0_0] 45 (0, 0)) (by (with_reducible repeat (first | refine blk_drewN ?_ _ | refine blk_drew ?_ | refine blk_alloc ?_ _)); exact BK213.out) hb); have n1_ := Aside0.mk (below_step (by repeat (first | (with_reducible first | exact HB.out | apply below_alloc | apply pw_below_drewN | apply below_drew1 | refine below_set ?_ GE213.out) | exact HB.out)) hb); have n2_ := Aside0.mk (hbox); have n3_ := Aside0.mk ((by rw [hg]; exact (below_size (by repeat (first | (with_reducible first | exact HB.out | apply below_alloc | apply pw_below_drewN | apply below_drew1 | refine below_set ?_ GE213.out) | exact HB.out))) : w.heap.size ≤ gb214)); have n4_ := Aside0.mk ((by rw [hg]; exact (below_size (by repeat (first | (with_reducible first | exact HB.out | apply below_alloc | apply pw_below_drewN | apply below_drew1 | refine below_set ?_ GE213.out) | exact HB.out))) : w.heap.size ≤ gb214)); have n5_ := Aside0.mk ((by rw [hg]; exact Nat.ne_of_lt (blk_lt (g := gb213) (o := .cells #[.slice A0_0 l0_0.length c0_0] 45 (0, 0)) (by (with_reducible repeat (first | refine blk_drewN ?_ _ | refine blk_drew ?_ | refine blk_alloc ?_ _)); exact BK213.out)) : gb213 ≠ gb214)); have n6_ := Aside0.mk ((by rw [hg]; exact Nat.ne_of_gt (blk_lt (g := gb213) (o := .cells #[.slice A0_0 l0_0.length c0_0] 45 (0, 0)) (by (with_reducible repeat (first | refine blk_drewN ?_ _ | refine blk_drew ?_ | refine blk_alloc ?_ _)); exact BK213.out)) : gb214 ≠ gb213)); clear BK213; clear HB; have BK213 := n0_; have HB := n1_; have BK214 := n2_; have GW214 := n3_; have GE214 := n4_; have NB213_214 := n5_; have NB214_213 := n6_; clear n0_ n1_ n2_ n3_ n4_ n5_ n6_; clear hb hbox hg; have hnb7 := NB213_214.out; have hnc7 := NB214_213.out; have hcz8_0 : w6.cell? ⟨gb213, 0, none⟩ = some (.slice A0_0 l0_0.length c0_0) := (blk_cell BK213.out 0).trans rfl; have hfz8_0 := blk_frozen BK213.out 0; have hcz9_0 : w6.cell? ⟨gb214, 0, none⟩ = some (.slice A1_0 l1_0.length c1_0) := (blk_cell BK214.out 0).trans rfl; have hfz9_0 := blk_frozen BK214.out 0) | ((with_reducible refine gate_callee (f := 60) rfl ?_); refine goesL_ (some 9) rfl rfl Try.func60 (by kernel_rfl) rfl #[.slice A0_0 l0_0.length c0_0, .slice A1_0 l1_0.length c1_0] rfl (by (try simp only [List.map_toArray, List.map_cons, List.map_nil]); first | done | rfl | (simp only [List.length_drop, List.length_take]; rfl)) ?_; (with_reducible refine (laws_eqAffineS.calls k _ _ l0_0 _ _ l1_0 true _ ?side1 ?side2 ?side3 ?side4 A3.out).mono ?_); (case side1 => repeat (first | exact (Kd.C_below HR0_0.out HB.out) | (with_reducible refine Kd.C_alloc ?_ _) | (with_reducible refine Kd.C_drewN ?_ _) | (with_reducible refine Kd.C_drew ?_))); (case side2 => exact HC0_0.out); (case side3 => repeat (first | exact (Kd.C_below HR1_0.out HB.out) | (with_reducible refine Kd.C_alloc ?_ _) | (with_reducible refine Kd.C_drewN ?_ _) | (with_reducible refine Kd.C_drew ?_))); (case side4 => exact HC1_0.out); rintro e w10 ⟨rfl, hb⟩; refine ⟨_, rfl, ?_⟩; have n0_ := Aside0.mk (blk_below (g := gb213) (o := .cells #[.slice A0_0 l0_0.length c0_0] 45 (0, 0)) (by (with_reducible repeat (first | refine blk_drewN ?_ _ | refine blk_drew ?_ | refine blk_alloc ?_ _)); exact BK213.out) hb); have n1_ := Aside0.mk (blk_below (g := gb214) (o := .cells #[.slice A1_0 l1_0.length c1_0] 45 (0, 0)) (by (with_reducible repeat (first | refine blk_drewN ?_ _ | refine blk_drew ?_ | refine blk_alloc ?_ _)); exact BK214.out) hb); have n2_ := Aside0.mk (below_step (by repeat (first | (with_reducible first | exact HB.out | apply below_alloc | apply pw_below_drewN | apply below_drew1 | refine below_set ?_ GE213.out | refine below_set ?_ GE214.out) | exact HB.out)) hb); clear BK213; clear BK214; clear HB; have BK213 := n0_; have BK214 := n1_; have HB := n2_; clear n0_ n1_ n2_; (try clear hb); (try clear hb2); (try clear hk); (try clear hi)))
    go_ret
    exact ⟨by first | rfl | (simp [errW_none, errW_some] <;> rfl) | (simp [*, errW_none, errW_some] <;> rfl), by repeat (first | (with_reducible first | exact HB.out | apply below_alloc | apply pw_below_drewN | apply below_drew1 | refine below_set ?_ GE213.out | refine below_set ?_ GE214.out) | exact HB.out)⟩
  · replace c4 := Bool.eq_false_iff.mpr c4
    subst c4
    have H1 : (some false) = some r := by rw [if_neg (show ¬ (false = true) by decide)] at H; exact H
    clear H
    have H := H1
    clear H1
    obtain rfl := Option.some.inj H
    go_enter Try.func22, Try.ntmps22
    go_wp2_with (first | ((with_reducible refine gate_dst (N := 2) rfl ?_); refine box_event ?hg (N := 2) ?hd (cs := #[.slice A0_0 l0_0.length c0_0]) (t := 45) ?hr ?_; (case hd => rfl); (case hg => rfl); (case hr => first | (go_simp; done) | (go_simp; rfl)); intro gb213 hg w11 hbox hb; have n0_ := Aside0.mk (below_step (by repeat (first | (with_reducible first | exact HB.out | apply below_alloc | apply pw_below_drewN | apply below_drew1) | exact HB.out)) hb); have n1_ := Aside0.mk (hbox); have n2_ := Aside0.mk ((by rw [hg]; exact (below_size (by repeat (first | (with_reducible first | exact HB.out | apply below_alloc | apply pw_below_drewN | apply below_drew1) | exact HB.out))) : w.heap.size ≤ gb213)); have n3_ := Aside0.mk ((by rw [hg]; exact (below_size (by repeat (first | (with_reducible first | exact HB.out | apply below_alloc | apply pw_below_drewN | apply below_drew1) | exact HB.out))) : w.heap.size ≤ gb213)); clear HB; have HB := n0_; have BK213 := n1_; have GW213 := n2_; have GE213 := n3_; clear n0_ n1_ n2_ n3_; clear hb hbox hg) | ((with_reducible refine gate_dst (N := 3) rfl ?_); refine box_event ?hg (N := 3) ?hd (cs := #[.slice A1_0 l1_0.length c1_0]) (t := 45) ?hr ?_; (case hd => rfl); (case hg => rfl); (case hr => first | (go_simp; done) | (go_simp; rfl)); intro gb214 hg w12 hbox hb; have n0_ := Aside0.mk (blk_below (g := gb213) (o := .cells #[.slice A0_0 l0_0.length c0_0] 45 (0, 0)) (by (with_reducible repeat (first | refine blk_drewN ?_ _ | refine blk_drew ?_ | refine blk_alloc ?_ _)); exact BK213.out) hb); have n1_ := Aside0.mk (below_step (by repeat (first | (with_reducible first | exact HB.out | apply below_alloc | apply pw_below_drewN | apply below_drew1 | refine below_set ?_ GE213.out) | exact HB.out)) hb); have n2_ := Aside0.mk (hbox); have n3_ := Aside0.mk ((by rw [hg]; exact (below_size (by repeat (first | (with_reducible first | exact HB.out | apply below_alloc | apply pw_below_drewN | apply below_drew1 | refine below_set ?_ GE213.out) | exact HB.out))) : w.heap.size ≤ gb214)); have n4_ := Aside0.mk ((by rw [hg]; exact (below_size (by repeat (first | (with_reducible first | exact HB.out | apply below_alloc | apply pw_below_drewN | apply below_drew1 | refine below_set ?_ GE213.out) | exact HB.out))) : w.heap.size ≤ gb214)); have n5_ := Aside0.mk ((by rw [hg]; exact Nat.ne_of_lt (blk_lt (g := gb213) (o := .cells #[.slice A0_0 l0_0.length c0_0] 45 (0, 0)) (by (with_reducible repeat (first | refine blk_drewN ?_ _ | refine blk_drew ?_ | refine blk_alloc ?_ _)); exact BK213.out)) : gb213 ≠ gb214)); have n6_ := Aside0.mk ((by rw [hg]; exact Nat.ne_of_gt (blk_lt (g := gb213) (o := .cells #[.slice A0_0 l0_0.length c0_0] 45 (0, 0)) (by (with_reducible repeat (first | refine blk_drewN ?_ _ | refine blk_drew ?_ | refine blk_alloc ?_ _)); exact BK213.out)) : gb214 ≠ gb213)); clear BK213; clear HB; have BK213 := n0_; have HB := n1_; have BK214 := n2_; have GW214 := n3_; have GE214 := n4_; have NB213_214 := n5_; have NB214_213 := n6_; clear n0_ n1_ n2_ n3_ n4_ n5_ n6_; clear hb hbox hg; have hnb13 := NB213_214.out; have hnc13 := NB214_213.out; have hcz14_0 : w12.cell? ⟨gb213, 0, none⟩ = some (.slice A0_0 l0_0.length c0_0) := (blk_cell BK213.out 0).trans rfl; have hfz14_0 := blk_frozen BK213.out 0; have hcz15_0 : w12.cell? ⟨gb214, 0, none⟩ = some (.slice A1_0 l1_0.length c1_0) := (blk_cell BK214.out 0).trans rfl; have hfz15_0 := blk_frozen BK214.out 0) | ((with_reducible refine gate_callee (f := 60) rfl ?_); refine goesL_ (some 9) rfl rfl Try.func60 (by kernel_rfl) rfl #[.slice A0_0 l0_0.length c0_0, .slice A1_0 l1_0.length c1_0] rfl (by (try simp only [List.map_toArray, List.map_cons, List.map_nil]); first | done | rfl | (simp only [List.length_drop, List.length_take]; rfl)) ?_; (with_reducible refine (laws_eqAffineS.calls k _ _ l0_0 _ _ l1_0 false _ ?side1 ?side2 ?side3 ?side4 A3.out).mono ?_); (case side1 => repeat (first | exact (Kd.C_below HR0_0.out HB.out) | (with_reducible refine Kd.C_alloc ?_ _) | (with_reducible refine Kd.C_drewN ?_ _) | (with_reducible refine Kd.C_drew ?_))); (case side2 => exact HC0_0.out); (case side3 => repeat (first | exact (Kd.C_below HR1_0.out HB.out) | (with_reducible refine Kd.C_alloc ?_ _) | (with_reducible refine Kd.C_drewN ?_ _) | (with_reducible refine Kd.C_drew ?_))); (case side4 => exact HC1_0.out); rintro e w16 ⟨rfl, hb⟩; refine ⟨_, rfl, ?_⟩; have n0_ := Aside0.mk (blk_below (g := gb213) (o := .cells #[.slice A0_0 l0_0.length c0_0] 45 (0, 0)) (by (with_reducible repeat (first | refine blk_drewN ?_ _ | refine blk_drew ?_ | refine blk_alloc ?_ _)); exact BK213.out) hb); have n1_ := Aside0.mk (blk_below (g := gb214) (o := .cells #[.slice A1_0 l1_0.length c1_0] 45 (0, 0)) (by (with_reducible repeat (first | refine blk_drewN ?_ _ | refine blk_drew ?_ | refine blk_alloc ?_ _)); exact BK214.out) hb); have n2_ := Aside0.mk (below_step (by repeat (first | (with_reducible first | exact HB.out | apply below_alloc | apply pw_below_drewN | apply below_drew1 | refine below_set ?_ GE213.out | refine below_set ?_ GE214.out) | exact HB.out)) hb); clear BK213; clear BK214; clear HB; have BK213 := n0_; have BK214 := n1_; have HB := n2_; clear n0_ n1_ n2_; (try clear hb); (try clear hb2); (try clear hk); (try clear hi)))
    go_ret
    exact ⟨by first | rfl | (simp [errW_none, errW_some] <;> rfl) | (simp [*, errW_none, errW_some] <;> rfl), by repeat (first | (with_reducible first | exact HB.out | apply below_alloc | apply pw_below_drewN | apply below_drew1 | refine below_set ?_ GE213.out | refine below_set ?_ GE214.out) | exact HB.out)⟩
end Go.Proofs.Ytlpckbleokoiiaa.Print
end

section
/- The laws' helpers over nets, as printed: size, copy, comparison. Conditions: lengths are bounded. -/
set_option linter.unusedVariables false
set_option linter.unusedSimpArgs false
namespace Go.Proofs.Ytlpckbleokoiiaa.Pure
open Go.RowKit Go.Proofs.YtlpckbleokoiiaaW.PrintWords Go.Proofs.YtlpckbleokoiiaaW.PrintLast Go.Proofs.YtlpckbleokoiiaaW.PrintMore Go.Proofs.Ytlpckbleokoiiaa.Print
/-- The laws' maps; the program's. -/
abbrev LA := S117
abbrev IA := S81
def cA (x : LA) : IA := ⟨x.f0, x.f1, x.f2.map cQ, x.f3.map cQ⟩
def szA (x : LA) : Nat := szQs x.f2 + szQs x.f3
def szAs (l : List LA) : Nat := l.length + sumW szA l
def bigA (x : LA) : Prop := bigQs x.f2 ∧ bigQs x.f3
def bigAs (l : List LA) : Prop := bigL l ∧ ∀ x ∈ l, bigA x
theorem rdLA {l : List LA} {i : Nat} (hi : i < l.length) : rd_T117 l (i : Int) = l[i] := getD_at hi
theorem rdIA {l : List IA} {i : Nat} (hi : i < l.length) : rd_T81 l (i : Int) = l[i] := getD_at hi
theorem szA_ev {x : LA} {left : Int} (h : bigA x) (h0 : 0 ≤ left) (h1 : left ≤ 1048576) : Ev (fun k => laws_szAffine.f k x.f0 x.f1 x.f2 x.f3 left) (lft left (szA x)) := by
  unfold laws_szAffine.f
  refine Ev.bind (szQs_ev h.1 h0 h1) ?_
  by_cases e : (szQs x.f2 : Int) ≤ left
  · rw [lft_ok e]
    refine ev_if_neg (by omega) (Ev.bind (szQs_ev h.2 (by omega) (by omega)) ?_)
    by_cases e' : (szQs x.f3 : Int) ≤ left - szQs x.f2
    · rw [lft_ok e']
      refine ev_if_neg (by omega) (ev_eq (Ev.now _) ?_)
      rw [lft_ok (by unfold szA; omega)]
      unfold szA
      omega
    · rw [lft_neg (by omega), lft_neg (by unfold szA; omega)]
      exact ev_if_pos (by omega) (Ev.now _)
  · rw [lft_neg (by omega), lft_neg (by unfold szA; omega)]
    exact ev_if_pos (by omega) (Ev.now _)
theorem szAs_ev {l : List LA} {left : Int} (h : bigAs l) (h0 : 0 ≤ left) (h1 : left ≤ 1048576) : Ev (fun k => laws_szAffineS.f k l left) (lft left (szAs l)) := by
  have hb := h.1
  unfold bigL at hb
  unfold laws_szAffineS.f
  rw [w64 (by omega) (by omega)]
  by_cases e : (l.length : Int) ≤ left
  · refine ev_if_neg (by omega) ?_
    refine ev_eq (ev_sz l szA (fun k left i => laws_szAffineS.l0 k l left i) ?_ ?_ ?_ (left - l.length) (by omega) (by omega)) ?_
    · intro k s
      simp only [laws_szAffineS.l0]
      rw [if_neg (by omega)]
    · intro i hi s hs0 hs1 hw r hr
      refine Ev.step (fun k => laws_szAffineS.l0.eq_2 ..) (ev_if_pos (by omega) (ev_if_pos (by omega) ?_))
      rw [rdLA hi]
      refine Ev.bind (szA_ev (h.2 _ (List.getElem_mem hi)) hs0 hs1) ?_
      rw [lft_ok hw, w64s hi h.1]
      exact ev_if_neg (by omega) hr
    · intro i hi s hs0 hs1 hw
      refine Ev.step (fun k => laws_szAffineS.l0.eq_2 ..) (ev_if_pos (by omega) (ev_if_pos (by omega) ?_))
      rw [rdLA hi]
      refine Ev.bind (szA_ev (h.2 _ (List.getElem_mem hi)) hs0 hs1) ?_
      rw [lft_neg hw]
      exact ev_if_pos (by omega) (Ev.now _)
    · unfold lft szAs
      split <;> split <;> omega
  · refine ev_if_pos (by omega) (ev_eq (Ev.now _) ?_)
    rw [lft_neg (by unfold szAs; omega)]
theorem szN_ev {l : List LA} {left : Int} (h : bigAs l) (h0 : 0 ≤ left) (h1 : left ≤ 1048576) : Ev (fun k => laws_szNet.f k l left) (lft left (szAs l)) := by
  unfold laws_szNet.f
  refine Ev.bind (szAs_ev h h0 h1) ?_
  by_cases e : (szAs l : Int) ≤ left
  · rw [lft_ok e]
    exact ev_if_neg (by omega) (Ev.now _)
  · rw [lft_neg (by omega)]
    exact ev_if_pos (by omega) (Ev.now _)
/-- What is small enough to be copied. -/
theorem szQ_mem {l : List LQ} {x : LQ} (hx : x ∈ l) : szQ x ≤ szQs l := by
  have := sumW_mem szQ hx
  unfold szQs
  omega
theorem szA_mem {l : List LA} {x : LA} (hx : x ∈ l) : szA x ≤ szAs l := by
  have := sumW_mem szA hx
  unfold szAs
  omega
theorem toA_ev {x : LA} (h : szA x ≤ 1048576) : Ev (fun k => laws_toAffine.f k x.f0 x.f1 x.f2 x.f3) (x.f0, x.f1, x.f2.map cQ, x.f3.map cQ) := by
  unfold laws_toAffine.f
  unfold szA at h
  have h2 : szQs x.f2 ≤ 1048576 := by omega
  have h3 : szQs x.f3 ≤ 1048576 := by omega
  have k2 : x.f2.length ≤ 1048576 := by unfold szQs at h2; omega
  have k3 : x.f3.length ≤ 1048576 := by unfold szQs at h3; omega
  exact Ev.bind (toQs_ev (by omega) (fun y hy => by have := szQ_mem hy; omega)) (Ev.bind (toQs_ev (by omega) (fun y hy => by have := szQ_mem hy; omega)) (Ev.now _))
theorem toN_ev {l : List LA} (h : szAs l ≤ 1048576) : Ev (fun k => laws_toNet.f k l) (l.map cA) := by
  have hl : l.length ≤ 1048576 := by unfold szAs at h; omega
  unfold laws_toNet.f
  refine Ev.bind (a := l.map cA) ?_ (Ev.now _)
  unfold laws_toAffineS.f
  refine ev_if_pos (by omega) (ev_if_pos (by omega) ?_)
  rw [Int.toNat_natCast]
  refine ev_fill l cA _ (fun k o i => laws_toAffineS.l0 k l o i) ?_ ?_
  · intro k o
    simp only [laws_toAffineS.l0]
    rw [if_neg (by omega)]
  · intro i hi o ho r hr
    have hx := szA_mem (List.getElem_mem hi)
    refine Ev.step (fun k => laws_toAffineS.l0.eq_2 ..) (ev_if_pos (by omega) (ev_if_pos (by omega) ?_))
    rw [rdLA hi]
    refine Ev.bind (toA_ev (by omega)) (ev_if_pos (by omega) ?_)
    rw [Int.toNat_natCast, w64s hi (by omega)]
    exact hr
def bigIA (x : IA) : Prop := (bigL x.f2 ∧ ∀ y ∈ x.f2, bigI y) ∧ bigL x.f3 ∧ ∀ y ∈ x.f3, bigI y
theorem eqA_ev (x : IA) (h : bigIA x) : Ev (fun k => laws_eqAffine.f k x.f0 x.f1 x.f2 x.f3 x.f0 x.f1 x.f2 x.f3) true := by
  unfold laws_eqAffine.f
  exact ev_if_pos rfl (ev_if_pos rfl (Ev.bind (eqQs_ev _ h.1.1 h.1.2) (ev_if_pos rfl (Ev.bind (eqQs_ev _ h.2.1 h.2.2) (ev_if_pos rfl (Ev.now _))))))
theorem eqN_ev (l : List IA) (h : bigL l) (hl : ∀ x ∈ l, bigIA x) : Ev (fun k => laws_eqNet.f k l l) true := by
  unfold bigL at h
  unfold laws_eqNet.f
  refine Ev.bind (a := true) ?_ (ev_if_pos rfl (Ev.now _))
  unfold laws_eqAffineS.f
  refine ev_if_pos rfl ?_
  refine ev_eq (ev_all l (fun _ => true) (fun k i => laws_eqAffineS.l0 k l l i) ?_ ?_ ?_) (by simp)
  · intro k
    simp only [laws_eqAffineS.l0]
    rw [if_neg (by omega)]
  · intro i hi _ r hr
    refine Ev.step (fun k => laws_eqAffineS.l0.eq_2 ..) (ev_if_pos (by omega) (ev_if_pos (by omega) (ev_if_pos (by omega) ?_)))
    rw [rdIA hi, w64s hi h]
    exact Ev.bind (eqA_ev _ (hl _ (List.getElem_mem hi))) (ev_if_pos rfl hr)
  · intro i hi e
    cases e
theorem bigI_cQs {l : List LQ} (h : szQs l ≤ 1048576) : bigL (l.map cQ) ∧ ∀ y ∈ l.map cQ, bigI y := by
  refine ⟨by unfold bigL; rw [List.length_map]; unfold szQs at h; omega, fun y hy => ?_⟩
  obtain ⟨x, hx, rfl⟩ := List.mem_map.1 hy
  have := szQ_mem hx
  unfold szQ at this
  exact ⟨by unfold bigL cQ; simp only; omega, by unfold bigL cQ; simp only; omega⟩
theorem eqN_cA {l : List LA} (h : szAs l ≤ 1048576) : Ev (fun k => laws_eqNet.f k (l.map cA) (l.map cA)) true := by
  refine eqN_ev _ (by unfold bigL; rw [List.length_map]; unfold szAs at h; omega) (fun y hy => ?_)
  obtain ⟨x, hx, rfl⟩ := List.mem_map.1 hy
  have := szA_mem hx
  unfold szA at this
  exact ⟨bigI_cQs (by omega), bigI_cQs (by omega)⟩
end Go.Proofs.Ytlpckbleokoiiaa.Pure
end

section
/- Arguments opened by the printed kinds: the laws' nets. Conditions: the types are the program's. -/
set_option linter.unusedVariables false
set_option linter.unusedSimpArgs false
namespace Go.Proofs.Ytlpckbleokoiiaa.Hand
open Go.ChangeShapes Go.WideShapes Go.Joins Go.RowKit Go.Proofs.YtlpckbleokoiiaaW.PrintWords Go.Proofs.YtlpckbleokoiiaaW.PrintLast Go.Proofs.YtlpckbleokoiiaaW.PrintMore Go.Proofs.Ytlpckbleokoiiaa.Print Go.Proofs.Ytlpckbleokoiiaa.Pure
def goodLA (x : LA) : Prop := I64 x.f0 ∧ I64 x.f1 ∧ goodLQs x.f2 ∧ goodLQs x.f3
def goodLAs (l : List LA) : Prop := bigL l ∧ ∀ x ∈ l, goodLA x
theorem bigAs_of {l : List LA} (h : goodLAs l) : bigAs l := ⟨h.1, fun x hx => ⟨bigQs_of (h.2 x hx).2.2.1, bigQs_of (h.2 x hx).2.2.2⟩⟩
theorem i64_of {x : Int} (h : (Lit.int .i64 x).wf = true) : I64 x := by
  simp [Lit.wf, show IntKind.i64.min = -9223372036854775808 from rfl, show IntKind.i64.max = 9223372036854775807 from rfl] at h
  exact h
theorem opens_i64 {t : TypeId} (ht : Try.prog.underlying t = some (.int .i64)) : Opens (Kd.int .i64) t I64 := opens_mono (opens_int ht) (fun y h => i64_of h)
set_option maxRecDepth 100000 in
theorem opens_LA : Opens k117 117 goodLA := by
  intro H enc W fuel cs x h
  obtain ⟨y0, y1, y2, y3, n, hx, hl, h0, h1, h2, h3⟩ := trod_struct4 Try.underlying117 h
  rw [show Try.prog.cellsOf 117 = 4 by kernel_rfl] at hl
  obtain ⟨c0, c1, c2, c3, rfl⟩ : ∃ a b c d, cs = [a, b, c, d] := by
    match cs, hl with
    | [a, b, c, d], _ => exact ⟨a, b, c, d, rfl⟩
  have h0' : DataW.trod enc Try.prog W 0 (fun _ => true) true n 3 [c0] = some y0 := h0
  have h1' : DataW.trod enc Try.prog W 0 (fun _ => true) true n 3 [c1] = some y1 := h1
  have h2' : DataW.trod enc Try.prog W 0 (fun _ => true) true n 49 [c2] = some y2 := h2
  have h3' : DataW.trod enc Try.prog W 0 (fun _ => true) true n 49 [c3] = some y3 := h3
  obtain ⟨a, ha, ga⟩ := opens_i64 Try.underlying3 enc W n _ _ h0'
  obtain ⟨b, hb, gb⟩ := opens_i64 Try.underlying3 enc W n _ _ h1'
  obtain ⟨l, ⟨A, c, e, hc, hC⟩, gl⟩ := opens_LQs enc W n _ _ h2'
  obtain ⟨l', ⟨A', c', e', hc', hC'⟩, gl'⟩ := opens_LQs enc W n _ _ h3'
  have ea : [c0] = [Value.int .i64 a] := ha
  have eb : [c1] = [Value.int .i64 b] := hb
  simp only [List.cons.injEq, and_true] at e e' ea eb
  subst e e' ea eb
  exact ⟨⟨a, b, l, l'⟩, k117_mk W ⟨a, b, l, l'⟩ hc hC hc' hC', ga, gb, gl, gl'⟩
set_option maxRecDepth 100000 in
theorem opens_LAs : Opens (Kd.slice 117 k117) 38 goodLAs := opens_sliceB Try.underlying38 (by kernel_rfl) opens_LA
set_option maxRecDepth 100000 in
/-- A parameter that is a net. -/
theorem arg_net {H : Type} {enc : TypeId × Value → H} {W : World} {r : Reach} {b0 : Nat} {v : Value} {d : DataW H} {p : List MemPlace} (hv : Value.okWide Try.prog W r b0 40 v) (h : DataW.Trod enc Try.prog W 0 (fun _ => true) true 40 v d p) :
    ∃ l A c, v = .agg #[.slice A l.length c] ∧ Kd.C k117 W A l.length l ∧ l.length ≤ c ∧ goodLAs l := by
  obtain ⟨cs, rfl, hsz⟩ := okWide_struct Try.underlying40 hv
  obtain ⟨fuel, hf⟩ := h
  obtain ⟨y0, n, hx, hl, h0⟩ := trod_struct1 Try.underlying40 hf
  rw [show Try.prog.cellsOf 40 = 1 by kernel_rfl] at hsz
  obtain ⟨c0, rfl⟩ : ∃ c0, cs = #[c0] := by
    obtain ⟨k⟩ := cs
    match k, hsz with
    | [c0], _ => exact ⟨c0, rfl⟩
  have h0' : DataW.trod enc Try.prog W 0 (fun _ => true) true n 38 [c0] = some y0 := h0
  obtain ⟨l, ⟨A, c, e, hc, hC⟩, gl⟩ := opens_LAs enc W n _ _ h0'
  simp only [List.cons.injEq, and_true] at e
  subst e
  exact ⟨l, A, c, rfl, hC, hc, gl⟩
end Go.Proofs.Ytlpckbleokoiiaa.Hand
end

section
/-
  DERIVED: THE SHELF's CONTRACTS AT THIS DUMP, IN PLAIN WORDS (tools/lay-plain.mjs out of 'TryShelf.lean', which tools/lay-shelf.mjs wrote): THE SAME DECLARATIONS UNDER THE SAME NAMES: 'import', 'namespace', 'open', 'def', 'theorem' AND NOTHING ELSE: no command of the shelf's: FOR A HAND-IN. Each laying: the table of numbers ('.._ren') and one theorem, a field a fact of the dump's own or the kernel's comparison; each contract: ONE APPLICATION.
-/
namespace Go.Proofs
open Go.Shelf
def Try.lays133_ren : Go.Shelf.Ren := ⟨fun | 133 => 118 | 128 => 127 | n => n, fun | 51 => 73 | 3 => 3 | 4 => 4 | 46 => 135 | 5 => 5 | 9 => 9 | n => n, fun | n => n⟩
theorem Try.lays133 : Go.Proofs.Lays.n133 Try.prog Try.lays133_ren := {
  mixed := by kernel_rfl
  f128 := Try.func127.trans (congrArg some (by kernel_rfl))
  f133 := Try.func118.trans (congrArg some (by kernel_rfl))
  t3 := Try.underlying3
  a3 := Try.isAgg3
  z3 := Try.sizeOf3
  v3 := Try.zeroValue3
  t4 := Try.underlying4
  a4 := Try.isAgg4
  z4 := Try.sizeOf4
  v4 := Try.zeroValue4
  t5 := Try.underlying5
  a5 := Try.isAgg5
  z5 := Try.sizeOf5
  v5 := Try.zeroValue5
  t9 := Try.underlying9
  a9 := Try.isAgg9
  z9 := Try.sizeOf9
  v9 := Try.zeroValue9
  t46 := Try.underlying135
  a46 := Try.isAgg135
  z46 := Try.sizeOf135
  v46 := Try.zeroValue135
  t51 := Try.underlying73
  a51 := Try.isAgg73
  z51 := Try.sizeOf73
  v51 := Try.zeroValue73 }
/-- bits.LeadingZeros32: "LeadingZeros32 returns the number of leading zero bits in x; the result is 32 for x == 0.": IT RETURNS '32 - Lib.bitLen x'; the world is as it was. ITS CALLEE bits.Len32 IS MET BY ITS OWN CONTRACT OFF THE SHELF (lay that first): entered in place it sends the kernel out of memory. (LAID: no walk: one application.) -/
theorem Try.bits_LeadingZeros32 (x : Int) (w : World) (h0 : 0 ≤ x) (h1 : x ≤ 4294967295) :
    Calls Try.prog 118 #[.int .u32 x] w fun e w' => e = .returned (.int .i64 (32 - (Lib.bitLen x.toNat : Int))) ∧ w' = w := Any.bits_LeadingZeros32 Try.lays133 x w h0 h1
end Go.Proofs
end
