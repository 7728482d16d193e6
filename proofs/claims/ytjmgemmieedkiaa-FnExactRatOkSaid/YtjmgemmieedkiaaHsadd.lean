/- The document's sum of bit lists. Conditions: the lists can be read and have at most 2^45 bits each. -/
import Derived.Test.YtjmgemmieedkiaaHsbit
set_option linter.unusedVariables false
set_option linter.unusedSimpArgs false
namespace Go.Proofs.Ytjmgemmieedkiaa.Hand
open Go.RowKit Go.Proofs.YtjmgemmieedkiaaW.PrintWords Go.Proofs.YtjmgemmieedkiaaW.PrintLast Go.Proofs.YtjmgemmieedkiaaW.PrintMore

/-- A sum, behind i bits. -/
def AddBIn (a b : List Bool) (i : Nat) (c : Bool) (o : List Bool) : Prop :=
  o.length = i ∧ bval o + c.toNat * 2 ^ i = bval (a.take i) + bval (b.take i)
theorem addB_step {a b o : List Bool} {i : Nat} {c x y : Bool} (h : AddBIn a b i c o) (hx : rb a (i : Int) = x) (hy : rb b (i : Int) = y) : AddBIn a b (i + 1) ((x && y) || (x && c) || (y && c)) (o ++ [(x != y) != c]) := by
  obtain ⟨h1, h2⟩ := h
  refine ⟨by rw [List.length_append, List.length_singleton, h1], ?_⟩
  rw [bval_append, bval_take_succ', bval_take_succ', hx, hy, bval_one, h1, Nat.pow_succ]
  generalize 2 ^ i = P at *
  cases x <;> cases y <;> cases c <;> simp at * <;> omega

/-- A cell of a list of bits at i, or the end. -/
theorem bit_case {w0 w : World} {A : Option Addr} {l : List Bool} (hr : Kd.bool.C w0 A l.length l) (hb : Below w0.heap.size w0 w) (i : Nat) :
    (decide ((i : Int) < (l.length : Int)) = true ∧ (i : Int) < (l.length : Int) ∧ decide (i < l.length) = true ∧ ∃ ad x, A = some ad ∧ rb l (i : Int) = x ∧ w.cell? (ad.add i) = some (.bool x)) ∨ (decide ((i : Int) < (l.length : Int)) = false ∧ ¬ (i : Int) < (l.length : Int) ∧ decide (i < l.length) = false ∧ rb l (i : Int) = false) := by
  rcases Nat.lt_or_ge i l.length with h | h
  · obtain ⟨ad, e1, hx⟩ := Kd.at_bool hr (i : Int) (by omega) (by omega)
    rw [Int.toNat_natCast] at hx
    exact .inl ⟨decide_eq_true (by omega), by omega, decide_eq_true h, ad, _, e1, rfl, (hb.cell (World.block_lt_of_cell? w0 _ hx)).trans hx⟩
  · exact .inr ⟨decide_eq_false (by omega), by omega, decide_eq_false (by omega), rb_ge h⟩

set_option maxHeartbeats 8000000 in
set_option maxRecDepth 100000 in
theorem l1AddBits_calls (A A' : Option Addr) (c c' : Nat) (l l' : List Bool) (w : World) (hr : Kd.bool.C w A l.length l) (hr' : Kd.bool.C w A' l'.length l') (hn : l.length ≤ 35184372088832) (hn' : l'.length ≤ 35184372088832) :
    Calls Try.prog 80 #[.slice A l.length c, .slice A' l'.length c'] w fun e w' => ∃ v, e = .returned v ∧ Kd.bool.R 4 w' w.heap.size (fun _ => True) v (bin (bval l + bval l')) ∧ Below w.heap.size w w' := by
  have HR := Aside0.mk hr
  have HR' := Aside0.mk hr'
  clear hr hr'
  have hO := Aside0.mk (show Kd.bool.R 4 (w.alloc (.cells #[] 4)) w.heap.size (fun _ => True) (.slice (some ⟨w.heap.size, 0, none⟩) 0 0) [] from
    Kd.R_of_own (own_lit_of (enc := Value.bool) w w.heap.size 4 [] (Nat.le_refl _) (by simp)) (fun k hk => trivial))
  go_enter Try.func80, Try.ntmps80
  go_wp2
  go_loopg [5, 6, 7] (l.length + l'.length) (fun g v5 v6 v7 w' => ∃ (cy : Bool) (i : Nat), v6 = .bool cy ∧ v7 = .int .i64 (i : Int) ∧ Aside0 (i + g = l.length + l'.length) ∧ ∃ o : List Bool, Aside0 (AddBIn l l' i cy o) ∧ Aside0 (Kd.bool.R 4 w' w.heap.size (fun _ => True) v5 o) ∧ Aside0 (Below w.heap.size w w'))
  case atStart => exact ⟨false, 0, rfl, rfl, ⟨by omega⟩, [], ⟨rfl, by simp [bval]⟩, hO, ⟨below_alloc (Below.refl _ _) _⟩⟩
  case round =>
    clear hO
    obtain ⟨cy, i, rfl, rfl, HI, o, HM, HO, HB⟩ := hrel
    have HOL := Aside0.mk HM.out.1
    have hib : i ≤ l.length + l'.length := by have := HI.out; omega
    have hob : o.length ≤ l.length + l'.length := by have := HOL.out; omega
    by_cases hend : l.length ≤ i ∧ l'.length ≤ i
    · have d1 : decide ((i : Int) < (l.length : Int)) = false := decide_eq_false (by omega)
      have d2 : decide ((i : Int) < (l'.length : Int)) = false := decide_eq_false (by omega)
      have d1' : decide (i < l.length) = false := decide_eq_false (by omega)
      have d2' : decide (i < l'.length) = false := decide_eq_false (by omega)
      have hsum := HM.out.2
      rw [List.take_of_length_le hend.1, List.take_of_length_le hend.2] at hsum
      have HSUM := Aside0.mk hsum
      clear hsum hend
      cases cy with
      | true =>
        go_wp2_with ((with_reducible refine gate_builtin (b := .append) (xs := #[.tmp 68, .tmp 69]) rfl ?_); at_builtin; refine Kd.R_append Kd.bool (w0 := w) (World.heap w).size rfl (.tmp 68) (.tmp 69) 55 4 (.bool false) 1 rfl Try.underlying55 infoB rfl (by decide) (by omega) _ o true [.bool true] (fun _ => True) (fun _ => False) rfl rfl rfl (fun _ hk => hk.elim) (fun _ _ => trivial) HO.out HB.out (Below.size HB.out) (by omega) ?_; intro v1 w1 ho hb hg hat; have HO1 := Aside0.mk ho; have HB1 := Aside0.mk hb; clear ho hb hg hat)
        obtain ⟨Ao, co, rfl⟩ := Kd.R_slice HO1.out
        refine (btrim_calls _ _ _ _ (Kd.R_reads' HO1.out).2.2 (Kd.R_reads' HO1.out).2.1).mono ?_
        rintro e w1 ⟨rfl, hd⟩
        have HB2 := Aside0.mk (HB1.out.trans (hd.below.mono HB1.out.size))
        have HO2 := Aside0.mk (Kd.R_take (m := btrimN (o ++ [true])) (Kd.R_below HO1.out hd.below) (btrimN_le _))
        clear hd
        go_wp2
        go_ret
        have e : bval (o ++ [true]) = bval l + bval l' := by
          rw [← HSUM.out, bval_append, bval_one, HOL.out]
          simp
        exact ⟨_, rfl, by rw [← e, ← btrim_eq]; exact HO2.out, HB2.out⟩
      | false =>
        obtain ⟨Ao, co, rfl⟩ := Kd.R_slice HO.out
        go_wp2_with fail
        refine (btrim_calls _ _ o _ (Kd.R_reads' HO.out).2.2 (Kd.R_reads' HO.out).2.1).mono ?_
        rintro e w1 ⟨rfl, hd⟩
        have HB1 := Aside0.mk (HB.out.trans (hd.below.mono HB.out.size))
        have HO1 := Aside0.mk (Kd.R_take (m := btrimN o) (Kd.R_below HO.out hd.below) (btrimN_le o))
        clear hd
        go_wp2
        go_ret
        have e := HSUM.out
        simp at e
        exact ⟨_, rfl, by rw [← e, ← btrim_eq]; exact HO1.out, HB1.out⟩
    · have hil : i < l.length + l'.length := by omega
      have hc1 := bit_case HR.out HB.out i
      have hc2 := bit_case HR'.out HB.out i
      rcases hc1 with ⟨d1, q1, p1, ad, x, rfl, hx, hcx⟩ | ⟨d1, q1, p1, hx⟩ <;> rcases hc2 with ⟨d2, q2, p2, ad', y, rfl, hy, hcy⟩ | ⟨d2, q2, p2, hy⟩
      case inr.inr => omega
      case inl.inl =>
        have HST := Aside0.mk (addB_step HM.out hx hy)
        clear hx hy
        cases x <;> cases y <;> cases cy
        case false.false.false =>
          go_wp2_with ((with_reducible refine gate_builtin (b := .append) (xs := #[.tmp 43, .tmp 49]) rfl ?_); at_builtin; refine Kd.R_append Kd.bool (w0 := w) (World.heap w).size rfl (.tmp 43) (.tmp 49) 55 4 (.bool false) 1 rfl Try.underlying55 infoB rfl (by decide) (by omega) _ o ((false != false) != false) [.bool ((false != false) != false)] (fun _ => True) (fun _ => False) rfl rfl rfl (fun _ hk => hk.elim) (fun _ _ => trivial) HO.out HB.out (Below.size HB.out) (by omega) ?_; intro v1 w1 ho hb hg hat; have HO1 := Aside0.mk ho; have HB1 := Aside0.mk hb; clear ho hb hg hat)
          go_roundg (gk - 1)
          case measure => have := HI.out; omega
          case rel => exact ⟨_, i + 1, rfl, by go_num, ⟨by have := HI.out; omega⟩, _, HST, HO1, HB1⟩
        case false.false.true =>
          go_wp2_with ((with_reducible refine gate_builtin (b := .append) (xs := #[.tmp 43, .tmp 49]) rfl ?_); at_builtin; refine Kd.R_append Kd.bool (w0 := w) (World.heap w).size rfl (.tmp 43) (.tmp 49) 55 4 (.bool false) 1 rfl Try.underlying55 infoB rfl (by decide) (by omega) _ o ((false != false) != true) [.bool ((false != false) != true)] (fun _ => True) (fun _ => False) rfl rfl rfl (fun _ hk => hk.elim) (fun _ _ => trivial) HO.out HB.out (Below.size HB.out) (by omega) ?_; intro v1 w1 ho hb hg hat; have HO1 := Aside0.mk ho; have HB1 := Aside0.mk hb; clear ho hb hg hat)
          go_roundg (gk - 1)
          case measure => have := HI.out; omega
          case rel => exact ⟨_, i + 1, rfl, by go_num, ⟨by have := HI.out; omega⟩, _, HST, HO1, HB1⟩
        case false.true.false =>
          go_wp2_with ((with_reducible refine gate_builtin (b := .append) (xs := #[.tmp 43, .tmp 49]) rfl ?_); at_builtin; refine Kd.R_append Kd.bool (w0 := w) (World.heap w).size rfl (.tmp 43) (.tmp 49) 55 4 (.bool false) 1 rfl Try.underlying55 infoB rfl (by decide) (by omega) _ o ((false != true) != false) [.bool ((false != true) != false)] (fun _ => True) (fun _ => False) rfl rfl rfl (fun _ hk => hk.elim) (fun _ _ => trivial) HO.out HB.out (Below.size HB.out) (by omega) ?_; intro v1 w1 ho hb hg hat; have HO1 := Aside0.mk ho; have HB1 := Aside0.mk hb; clear ho hb hg hat)
          go_roundg (gk - 1)
          case measure => have := HI.out; omega
          case rel => exact ⟨_, i + 1, rfl, by go_num, ⟨by have := HI.out; omega⟩, _, HST, HO1, HB1⟩
        case false.true.true =>
          go_wp2_with ((with_reducible refine gate_builtin (b := .append) (xs := #[.tmp 43, .tmp 49]) rfl ?_); at_builtin; refine Kd.R_append Kd.bool (w0 := w) (World.heap w).size rfl (.tmp 43) (.tmp 49) 55 4 (.bool false) 1 rfl Try.underlying55 infoB rfl (by decide) (by omega) _ o ((false != true) != true) [.bool ((false != true) != true)] (fun _ => True) (fun _ => False) rfl rfl rfl (fun _ hk => hk.elim) (fun _ _ => trivial) HO.out HB.out (Below.size HB.out) (by omega) ?_; intro v1 w1 ho hb hg hat; have HO1 := Aside0.mk ho; have HB1 := Aside0.mk hb; clear ho hb hg hat)
          go_roundg (gk - 1)
          case measure => have := HI.out; omega
          case rel => exact ⟨_, i + 1, rfl, by go_num, ⟨by have := HI.out; omega⟩, _, HST, HO1, HB1⟩
        case true.false.false =>
          go_wp2_with ((with_reducible refine gate_builtin (b := .append) (xs := #[.tmp 43, .tmp 49]) rfl ?_); at_builtin; refine Kd.R_append Kd.bool (w0 := w) (World.heap w).size rfl (.tmp 43) (.tmp 49) 55 4 (.bool false) 1 rfl Try.underlying55 infoB rfl (by decide) (by omega) _ o ((true != false) != false) [.bool ((true != false) != false)] (fun _ => True) (fun _ => False) rfl rfl rfl (fun _ hk => hk.elim) (fun _ _ => trivial) HO.out HB.out (Below.size HB.out) (by omega) ?_; intro v1 w1 ho hb hg hat; have HO1 := Aside0.mk ho; have HB1 := Aside0.mk hb; clear ho hb hg hat)
          go_roundg (gk - 1)
          case measure => have := HI.out; omega
          case rel => exact ⟨_, i + 1, rfl, by go_num, ⟨by have := HI.out; omega⟩, _, HST, HO1, HB1⟩
        case true.false.true =>
          go_wp2_with ((with_reducible refine gate_builtin (b := .append) (xs := #[.tmp 43, .tmp 49]) rfl ?_); at_builtin; refine Kd.R_append Kd.bool (w0 := w) (World.heap w).size rfl (.tmp 43) (.tmp 49) 55 4 (.bool false) 1 rfl Try.underlying55 infoB rfl (by decide) (by omega) _ o ((true != false) != true) [.bool ((true != false) != true)] (fun _ => True) (fun _ => False) rfl rfl rfl (fun _ hk => hk.elim) (fun _ _ => trivial) HO.out HB.out (Below.size HB.out) (by omega) ?_; intro v1 w1 ho hb hg hat; have HO1 := Aside0.mk ho; have HB1 := Aside0.mk hb; clear ho hb hg hat)
          go_roundg (gk - 1)
          case measure => have := HI.out; omega
          case rel => exact ⟨_, i + 1, rfl, by go_num, ⟨by have := HI.out; omega⟩, _, HST, HO1, HB1⟩
        case true.true.false =>
          go_wp2_with ((with_reducible refine gate_builtin (b := .append) (xs := #[.tmp 43, .tmp 49]) rfl ?_); at_builtin; refine Kd.R_append Kd.bool (w0 := w) (World.heap w).size rfl (.tmp 43) (.tmp 49) 55 4 (.bool false) 1 rfl Try.underlying55 infoB rfl (by decide) (by omega) _ o ((true != true) != false) [.bool ((true != true) != false)] (fun _ => True) (fun _ => False) rfl rfl rfl (fun _ hk => hk.elim) (fun _ _ => trivial) HO.out HB.out (Below.size HB.out) (by omega) ?_; intro v1 w1 ho hb hg hat; have HO1 := Aside0.mk ho; have HB1 := Aside0.mk hb; clear ho hb hg hat)
          go_roundg (gk - 1)
          case measure => have := HI.out; omega
          case rel => exact ⟨_, i + 1, rfl, by go_num, ⟨by have := HI.out; omega⟩, _, HST, HO1, HB1⟩
        case true.true.true =>
          go_wp2_with ((with_reducible refine gate_builtin (b := .append) (xs := #[.tmp 43, .tmp 49]) rfl ?_); at_builtin; refine Kd.R_append Kd.bool (w0 := w) (World.heap w).size rfl (.tmp 43) (.tmp 49) 55 4 (.bool false) 1 rfl Try.underlying55 infoB rfl (by decide) (by omega) _ o ((true != true) != true) [.bool ((true != true) != true)] (fun _ => True) (fun _ => False) rfl rfl rfl (fun _ hk => hk.elim) (fun _ _ => trivial) HO.out HB.out (Below.size HB.out) (by omega) ?_; intro v1 w1 ho hb hg hat; have HO1 := Aside0.mk ho; have HB1 := Aside0.mk hb; clear ho hb hg hat)
          go_roundg (gk - 1)
          case measure => have := HI.out; omega
          case rel => exact ⟨_, i + 1, rfl, by go_num, ⟨by have := HI.out; omega⟩, _, HST, HO1, HB1⟩
      case inl.inr =>
        have HST := Aside0.mk (addB_step HM.out hx hy)
        clear hx hy
        cases x <;> cases cy
        case false.false =>
          go_wp2_with ((with_reducible refine gate_builtin (b := .append) (xs := #[.tmp 43, .tmp 49]) rfl ?_); at_builtin; refine Kd.R_append Kd.bool (w0 := w) (World.heap w).size rfl (.tmp 43) (.tmp 49) 55 4 (.bool false) 1 rfl Try.underlying55 infoB rfl (by decide) (by omega) _ o ((false != false) != false) [.bool ((false != false) != false)] (fun _ => True) (fun _ => False) rfl rfl rfl (fun _ hk => hk.elim) (fun _ _ => trivial) HO.out HB.out (Below.size HB.out) (by omega) ?_; intro v1 w1 ho hb hg hat; have HO1 := Aside0.mk ho; have HB1 := Aside0.mk hb; clear ho hb hg hat)
          go_roundg (gk - 1)
          case measure => have := HI.out; omega
          case rel => exact ⟨_, i + 1, rfl, by go_num, ⟨by have := HI.out; omega⟩, _, HST, HO1, HB1⟩
        case false.true =>
          go_wp2_with ((with_reducible refine gate_builtin (b := .append) (xs := #[.tmp 43, .tmp 49]) rfl ?_); at_builtin; refine Kd.R_append Kd.bool (w0 := w) (World.heap w).size rfl (.tmp 43) (.tmp 49) 55 4 (.bool false) 1 rfl Try.underlying55 infoB rfl (by decide) (by omega) _ o ((false != false) != true) [.bool ((false != false) != true)] (fun _ => True) (fun _ => False) rfl rfl rfl (fun _ hk => hk.elim) (fun _ _ => trivial) HO.out HB.out (Below.size HB.out) (by omega) ?_; intro v1 w1 ho hb hg hat; have HO1 := Aside0.mk ho; have HB1 := Aside0.mk hb; clear ho hb hg hat)
          go_roundg (gk - 1)
          case measure => have := HI.out; omega
          case rel => exact ⟨_, i + 1, rfl, by go_num, ⟨by have := HI.out; omega⟩, _, HST, HO1, HB1⟩
        case true.false =>
          go_wp2_with ((with_reducible refine gate_builtin (b := .append) (xs := #[.tmp 43, .tmp 49]) rfl ?_); at_builtin; refine Kd.R_append Kd.bool (w0 := w) (World.heap w).size rfl (.tmp 43) (.tmp 49) 55 4 (.bool false) 1 rfl Try.underlying55 infoB rfl (by decide) (by omega) _ o ((true != false) != false) [.bool ((true != false) != false)] (fun _ => True) (fun _ => False) rfl rfl rfl (fun _ hk => hk.elim) (fun _ _ => trivial) HO.out HB.out (Below.size HB.out) (by omega) ?_; intro v1 w1 ho hb hg hat; have HO1 := Aside0.mk ho; have HB1 := Aside0.mk hb; clear ho hb hg hat)
          go_roundg (gk - 1)
          case measure => have := HI.out; omega
          case rel => exact ⟨_, i + 1, rfl, by go_num, ⟨by have := HI.out; omega⟩, _, HST, HO1, HB1⟩
        case true.true =>
          go_wp2_with ((with_reducible refine gate_builtin (b := .append) (xs := #[.tmp 43, .tmp 49]) rfl ?_); at_builtin; refine Kd.R_append Kd.bool (w0 := w) (World.heap w).size rfl (.tmp 43) (.tmp 49) 55 4 (.bool false) 1 rfl Try.underlying55 infoB rfl (by decide) (by omega) _ o ((true != false) != true) [.bool ((true != false) != true)] (fun _ => True) (fun _ => False) rfl rfl rfl (fun _ hk => hk.elim) (fun _ _ => trivial) HO.out HB.out (Below.size HB.out) (by omega) ?_; intro v1 w1 ho hb hg hat; have HO1 := Aside0.mk ho; have HB1 := Aside0.mk hb; clear ho hb hg hat)
          go_roundg (gk - 1)
          case measure => have := HI.out; omega
          case rel => exact ⟨_, i + 1, rfl, by go_num, ⟨by have := HI.out; omega⟩, _, HST, HO1, HB1⟩
      case inr.inl =>
        have HST := Aside0.mk (addB_step HM.out hx hy)
        clear hx hy
        cases y <;> cases cy
        case false.false =>
          go_wp2_with ((with_reducible refine gate_builtin (b := .append) (xs := #[.tmp 43, .tmp 49]) rfl ?_); at_builtin; refine Kd.R_append Kd.bool (w0 := w) (World.heap w).size rfl (.tmp 43) (.tmp 49) 55 4 (.bool false) 1 rfl Try.underlying55 infoB rfl (by decide) (by omega) _ o ((false != false) != false) [.bool ((false != false) != false)] (fun _ => True) (fun _ => False) rfl rfl rfl (fun _ hk => hk.elim) (fun _ _ => trivial) HO.out HB.out (Below.size HB.out) (by omega) ?_; intro v1 w1 ho hb hg hat; have HO1 := Aside0.mk ho; have HB1 := Aside0.mk hb; clear ho hb hg hat)
          go_roundg (gk - 1)
          case measure => have := HI.out; omega
          case rel => exact ⟨_, i + 1, rfl, by go_num, ⟨by have := HI.out; omega⟩, _, HST, HO1, HB1⟩
        case false.true =>
          go_wp2_with ((with_reducible refine gate_builtin (b := .append) (xs := #[.tmp 43, .tmp 49]) rfl ?_); at_builtin; refine Kd.R_append Kd.bool (w0 := w) (World.heap w).size rfl (.tmp 43) (.tmp 49) 55 4 (.bool false) 1 rfl Try.underlying55 infoB rfl (by decide) (by omega) _ o ((false != false) != true) [.bool ((false != false) != true)] (fun _ => True) (fun _ => False) rfl rfl rfl (fun _ hk => hk.elim) (fun _ _ => trivial) HO.out HB.out (Below.size HB.out) (by omega) ?_; intro v1 w1 ho hb hg hat; have HO1 := Aside0.mk ho; have HB1 := Aside0.mk hb; clear ho hb hg hat)
          go_roundg (gk - 1)
          case measure => have := HI.out; omega
          case rel => exact ⟨_, i + 1, rfl, by go_num, ⟨by have := HI.out; omega⟩, _, HST, HO1, HB1⟩
        case true.false =>
          go_wp2_with ((with_reducible refine gate_builtin (b := .append) (xs := #[.tmp 43, .tmp 49]) rfl ?_); at_builtin; refine Kd.R_append Kd.bool (w0 := w) (World.heap w).size rfl (.tmp 43) (.tmp 49) 55 4 (.bool false) 1 rfl Try.underlying55 infoB rfl (by decide) (by omega) _ o ((false != true) != false) [.bool ((false != true) != false)] (fun _ => True) (fun _ => False) rfl rfl rfl (fun _ hk => hk.elim) (fun _ _ => trivial) HO.out HB.out (Below.size HB.out) (by omega) ?_; intro v1 w1 ho hb hg hat; have HO1 := Aside0.mk ho; have HB1 := Aside0.mk hb; clear ho hb hg hat)
          go_roundg (gk - 1)
          case measure => have := HI.out; omega
          case rel => exact ⟨_, i + 1, rfl, by go_num, ⟨by have := HI.out; omega⟩, _, HST, HO1, HB1⟩
        case true.true =>
          go_wp2_with ((with_reducible refine gate_builtin (b := .append) (xs := #[.tmp 43, .tmp 49]) rfl ?_); at_builtin; refine Kd.R_append Kd.bool (w0 := w) (World.heap w).size rfl (.tmp 43) (.tmp 49) 55 4 (.bool false) 1 rfl Try.underlying55 infoB rfl (by decide) (by omega) _ o ((false != true) != true) [.bool ((false != true) != true)] (fun _ => True) (fun _ => False) rfl rfl rfl (fun _ hk => hk.elim) (fun _ _ => trivial) HO.out HB.out (Below.size HB.out) (by omega) ?_; intro v1 w1 ho hb hg hat; have HO1 := Aside0.mk ho; have HB1 := Aside0.mk hb; clear ho hb hg hat)
          go_roundg (gk - 1)
          case measure => have := HI.out; omega
          case rel => exact ⟨_, i + 1, rfl, by go_num, ⟨by have := HI.out; omega⟩, _, HST, HO1, HB1⟩
end Go.Proofs.Ytjmgemmieedkiaa.Hand
