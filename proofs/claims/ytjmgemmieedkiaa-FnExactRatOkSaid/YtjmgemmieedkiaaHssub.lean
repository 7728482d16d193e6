/- The document's difference of bit lists. Conditions: the lists can be read, have at most 2^45 bits each, and the second is not greater. -/
import Derived.Test.YtjmgemmieedkiaaHsadd
set_option linter.unusedVariables false
set_option linter.unusedSimpArgs false
namespace Go.Proofs.Ytjmgemmieedkiaa.Hand
open Go.RowKit Go.Proofs.YtjmgemmieedkiaaW.PrintWords Go.Proofs.YtjmgemmieedkiaaW.PrintLast Go.Proofs.YtjmgemmieedkiaaW.PrintMore

/-- A difference, behind i bits. -/
def SubBIn (a b : List Bool) (i : Nat) (c : Bool) (o : List Bool) : Prop :=
  o.length = i ∧ bval o + bval (b.take i) = bval (a.take i) + c.toNat * 2 ^ i
theorem subB_step {a b o : List Bool} {i : Nat} {c x y : Bool} (h : SubBIn a b i c o) (hx : rb a (i : Int) = x) (hy : rb b (i : Int) = y) : SubBIn a b (i + 1) ((!x && y) || (!x && c) || (y && c)) (o ++ [(x != y) != c]) := by
  obtain ⟨h1, h2⟩ := h
  refine ⟨by rw [List.length_append, List.length_singleton, h1], ?_⟩
  rw [bval_append, bval_take_succ', bval_take_succ', hx, hy, bval_one, h1, Nat.pow_succ]
  generalize 2 ^ i = P at *
  cases x <;> cases y <;> cases c <;> simp at * <;> omega
theorem subB_end {a b o : List Bool} {c : Bool} (h : SubBIn a b a.length c o) (hle : bval b ≤ bval a) : bval o = bval a - bval b := by
  obtain ⟨h1, h2⟩ := h
  rw [List.take_length] at h2
  have ha := bval_lt a
  have ho := bval_lt o
  rw [h1] at ho
  have hb : bval (b.take a.length) = bval b := by
    rcases Nat.lt_or_ge a.length b.length with h3 | h3
    · have h4 := bval_split b a.length (by omega)
      rcases Nat.eq_zero_or_pos (bval (b.drop a.length)) with h5 | h5
      · rw [h5] at h4; omega
      · have : 2 ^ a.length * 1 ≤ 2 ^ a.length * bval (b.drop a.length) := Nat.mul_le_mul_left _ h5
        omega
    · rw [List.take_of_length_le h3]
  rw [hb] at h2
  have h2c := Bool.toNat_lt c
  cases c
  · simp at h2; omega
  · simp at h2; omega

set_option maxHeartbeats 8000000 in
set_option maxRecDepth 100000 in
theorem l1SubBits_calls (A A' : Option Addr) (c c' : Nat) (l l' : List Bool) (w : World) (hr : Kd.bool.C w A l.length l) (hr' : Kd.bool.C w A' l'.length l') (hn : l.length ≤ 35184372088832) (hn' : l'.length ≤ 35184372088832) (hle : bval l' ≤ bval l) :
    Calls Try.prog 81 #[.slice A l.length c, .slice A' l'.length c'] w fun e w' => ∃ v, e = .returned v ∧ Kd.bool.R 4 w' w.heap.size (fun _ => True) v (bin (bval l - bval l')) ∧ Below w.heap.size w w' := by
  have HR := Aside0.mk hr
  have HR' := Aside0.mk hr'
  have HLE := Aside0.mk hle
  clear hr hr' hle
  have hO := Aside0.mk (show Kd.bool.R 4 (w.alloc (.cells #[] 4)) w.heap.size (fun _ => True) (.slice (some ⟨w.heap.size, 0, none⟩) 0 0) [] from
    Kd.R_of_own (own_lit_of (enc := Value.bool) w w.heap.size 4 [] (Nat.le_refl _) (by simp)) (fun k hk => trivial))
  go_enter Try.func81, Try.ntmps81
  go_wp2
  go_loopg [5, 6, 7] l.length (fun g v5 v6 v7 w' => ∃ (cy : Bool) (i : Nat), v6 = .bool cy ∧ v7 = .int .i64 (i : Int) ∧ Aside0 (i + g = l.length) ∧ ∃ o : List Bool, Aside0 (SubBIn l l' i cy o) ∧ Aside0 (Kd.bool.R 4 w' w.heap.size (fun _ => True) v5 o) ∧ Aside0 (Below w.heap.size w w'))
  case atStart => exact ⟨false, 0, rfl, rfl, ⟨by omega⟩, [], ⟨rfl, by simp [bval]⟩, hO, ⟨below_alloc (Below.refl _ _) _⟩⟩
  case round =>
    clear hO
    obtain ⟨cy, i, rfl, rfl, HI, o, HM, HO, HB⟩ := hrel
    have hib : i ≤ l.length := by have := HI.out; omega
    have hob : o.length ≤ l.length := by have := HM.out.1; omega
    have hc1 := bit_case HR.out HB.out i
    rcases hc1 with ⟨d1, q1, p1, ad, x, rfl, hx, hcx⟩ | ⟨d1, q1, p1, hx⟩
    case inr =>
      have hie : i = l.length := by omega
      subst hie
      have HEND := Aside0.mk (subB_end HM.out HLE.out)
      obtain ⟨Ao, co, rfl⟩ := Kd.R_slice HO.out
      clear hx
      go_wp2_with fail
      refine (btrim_calls _ _ o _ (Kd.R_reads' HO.out).2.2 (Kd.R_reads' HO.out).2.1).mono ?_
      rintro e w1 ⟨rfl, hd⟩
      have HB1 := Aside0.mk (HB.out.trans (hd.below.mono HB.out.size))
      have HO1 := Aside0.mk (Kd.R_take (m := btrimN o) (Kd.R_below HO.out hd.below) (btrimN_le o))
      clear hd
      go_wp2
      go_ret
      exact ⟨_, rfl, by rw [← HEND.out, ← btrim_eq]; exact HO1.out, HB1.out⟩
    case inl =>
      have hc2 := bit_case HR'.out HB.out i
      rcases hc2 with ⟨d2, q2, p2, ad', y, rfl, hy, hcy⟩ | ⟨d2, q2, p2, hy⟩
      · have HST := Aside0.mk (subB_step HM.out hx hy)
        clear hx hy
        cases x <;> cases y <;> cases cy
        case false.false.false =>
          go_wp2_with ((with_reducible refine gate_builtin (b := .append) (xs := #[.tmp 31, .tmp 37]) rfl ?_); at_builtin; refine Kd.R_append Kd.bool (w0 := w) (World.heap w).size rfl (.tmp 31) (.tmp 37) 55 4 (.bool false) 1 rfl Try.underlying55 infoB rfl (by decide) (by omega) _ o ((false != false) != false) [.bool ((false != false) != false)] (fun _ => True) (fun _ => False) rfl rfl rfl (fun _ hk => hk.elim) (fun _ _ => trivial) HO.out HB.out (Below.size HB.out) (by omega) ?_; intro v1 w1 ho hb hg hat; have HO1 := Aside0.mk ho; have HB1 := Aside0.mk hb; clear ho hb hg hat)
          go_roundg (gk - 1)
          case measure => have := HI.out; omega
          case rel => exact ⟨_, i + 1, rfl, by go_num, ⟨by have := HI.out; omega⟩, _, HST, HO1, HB1⟩
        case false.false.true =>
          go_wp2_with ((with_reducible refine gate_builtin (b := .append) (xs := #[.tmp 31, .tmp 37]) rfl ?_); at_builtin; refine Kd.R_append Kd.bool (w0 := w) (World.heap w).size rfl (.tmp 31) (.tmp 37) 55 4 (.bool false) 1 rfl Try.underlying55 infoB rfl (by decide) (by omega) _ o ((false != false) != true) [.bool ((false != false) != true)] (fun _ => True) (fun _ => False) rfl rfl rfl (fun _ hk => hk.elim) (fun _ _ => trivial) HO.out HB.out (Below.size HB.out) (by omega) ?_; intro v1 w1 ho hb hg hat; have HO1 := Aside0.mk ho; have HB1 := Aside0.mk hb; clear ho hb hg hat)
          go_roundg (gk - 1)
          case measure => have := HI.out; omega
          case rel => exact ⟨_, i + 1, rfl, by go_num, ⟨by have := HI.out; omega⟩, _, HST, HO1, HB1⟩
        case false.true.false =>
          go_wp2_with ((with_reducible refine gate_builtin (b := .append) (xs := #[.tmp 31, .tmp 37]) rfl ?_); at_builtin; refine Kd.R_append Kd.bool (w0 := w) (World.heap w).size rfl (.tmp 31) (.tmp 37) 55 4 (.bool false) 1 rfl Try.underlying55 infoB rfl (by decide) (by omega) _ o ((false != true) != false) [.bool ((false != true) != false)] (fun _ => True) (fun _ => False) rfl rfl rfl (fun _ hk => hk.elim) (fun _ _ => trivial) HO.out HB.out (Below.size HB.out) (by omega) ?_; intro v1 w1 ho hb hg hat; have HO1 := Aside0.mk ho; have HB1 := Aside0.mk hb; clear ho hb hg hat)
          go_roundg (gk - 1)
          case measure => have := HI.out; omega
          case rel => exact ⟨_, i + 1, rfl, by go_num, ⟨by have := HI.out; omega⟩, _, HST, HO1, HB1⟩
        case false.true.true =>
          go_wp2_with ((with_reducible refine gate_builtin (b := .append) (xs := #[.tmp 31, .tmp 37]) rfl ?_); at_builtin; refine Kd.R_append Kd.bool (w0 := w) (World.heap w).size rfl (.tmp 31) (.tmp 37) 55 4 (.bool false) 1 rfl Try.underlying55 infoB rfl (by decide) (by omega) _ o ((false != true) != true) [.bool ((false != true) != true)] (fun _ => True) (fun _ => False) rfl rfl rfl (fun _ hk => hk.elim) (fun _ _ => trivial) HO.out HB.out (Below.size HB.out) (by omega) ?_; intro v1 w1 ho hb hg hat; have HO1 := Aside0.mk ho; have HB1 := Aside0.mk hb; clear ho hb hg hat)
          go_roundg (gk - 1)
          case measure => have := HI.out; omega
          case rel => exact ⟨_, i + 1, rfl, by go_num, ⟨by have := HI.out; omega⟩, _, HST, HO1, HB1⟩
        case true.false.false =>
          go_wp2_with ((with_reducible refine gate_builtin (b := .append) (xs := #[.tmp 31, .tmp 37]) rfl ?_); at_builtin; refine Kd.R_append Kd.bool (w0 := w) (World.heap w).size rfl (.tmp 31) (.tmp 37) 55 4 (.bool false) 1 rfl Try.underlying55 infoB rfl (by decide) (by omega) _ o ((true != false) != false) [.bool ((true != false) != false)] (fun _ => True) (fun _ => False) rfl rfl rfl (fun _ hk => hk.elim) (fun _ _ => trivial) HO.out HB.out (Below.size HB.out) (by omega) ?_; intro v1 w1 ho hb hg hat; have HO1 := Aside0.mk ho; have HB1 := Aside0.mk hb; clear ho hb hg hat)
          go_roundg (gk - 1)
          case measure => have := HI.out; omega
          case rel => exact ⟨_, i + 1, rfl, by go_num, ⟨by have := HI.out; omega⟩, _, HST, HO1, HB1⟩
        case true.false.true =>
          go_wp2_with ((with_reducible refine gate_builtin (b := .append) (xs := #[.tmp 31, .tmp 37]) rfl ?_); at_builtin; refine Kd.R_append Kd.bool (w0 := w) (World.heap w).size rfl (.tmp 31) (.tmp 37) 55 4 (.bool false) 1 rfl Try.underlying55 infoB rfl (by decide) (by omega) _ o ((true != false) != true) [.bool ((true != false) != true)] (fun _ => True) (fun _ => False) rfl rfl rfl (fun _ hk => hk.elim) (fun _ _ => trivial) HO.out HB.out (Below.size HB.out) (by omega) ?_; intro v1 w1 ho hb hg hat; have HO1 := Aside0.mk ho; have HB1 := Aside0.mk hb; clear ho hb hg hat)
          go_roundg (gk - 1)
          case measure => have := HI.out; omega
          case rel => exact ⟨_, i + 1, rfl, by go_num, ⟨by have := HI.out; omega⟩, _, HST, HO1, HB1⟩
        case true.true.false =>
          go_wp2_with ((with_reducible refine gate_builtin (b := .append) (xs := #[.tmp 31, .tmp 37]) rfl ?_); at_builtin; refine Kd.R_append Kd.bool (w0 := w) (World.heap w).size rfl (.tmp 31) (.tmp 37) 55 4 (.bool false) 1 rfl Try.underlying55 infoB rfl (by decide) (by omega) _ o ((true != true) != false) [.bool ((true != true) != false)] (fun _ => True) (fun _ => False) rfl rfl rfl (fun _ hk => hk.elim) (fun _ _ => trivial) HO.out HB.out (Below.size HB.out) (by omega) ?_; intro v1 w1 ho hb hg hat; have HO1 := Aside0.mk ho; have HB1 := Aside0.mk hb; clear ho hb hg hat)
          go_roundg (gk - 1)
          case measure => have := HI.out; omega
          case rel => exact ⟨_, i + 1, rfl, by go_num, ⟨by have := HI.out; omega⟩, _, HST, HO1, HB1⟩
        case true.true.true =>
          go_wp2_with ((with_reducible refine gate_builtin (b := .append) (xs := #[.tmp 31, .tmp 37]) rfl ?_); at_builtin; refine Kd.R_append Kd.bool (w0 := w) (World.heap w).size rfl (.tmp 31) (.tmp 37) 55 4 (.bool false) 1 rfl Try.underlying55 infoB rfl (by decide) (by omega) _ o ((true != true) != true) [.bool ((true != true) != true)] (fun _ => True) (fun _ => False) rfl rfl rfl (fun _ hk => hk.elim) (fun _ _ => trivial) HO.out HB.out (Below.size HB.out) (by omega) ?_; intro v1 w1 ho hb hg hat; have HO1 := Aside0.mk ho; have HB1 := Aside0.mk hb; clear ho hb hg hat)
          go_roundg (gk - 1)
          case measure => have := HI.out; omega
          case rel => exact ⟨_, i + 1, rfl, by go_num, ⟨by have := HI.out; omega⟩, _, HST, HO1, HB1⟩
      · have HST := Aside0.mk (subB_step HM.out hx hy)
        clear hx hy
        cases x <;> cases cy
        case false.false =>
          go_wp2_with ((with_reducible refine gate_builtin (b := .append) (xs := #[.tmp 31, .tmp 37]) rfl ?_); at_builtin; refine Kd.R_append Kd.bool (w0 := w) (World.heap w).size rfl (.tmp 31) (.tmp 37) 55 4 (.bool false) 1 rfl Try.underlying55 infoB rfl (by decide) (by omega) _ o ((false != false) != false) [.bool ((false != false) != false)] (fun _ => True) (fun _ => False) rfl rfl rfl (fun _ hk => hk.elim) (fun _ _ => trivial) HO.out HB.out (Below.size HB.out) (by omega) ?_; intro v1 w1 ho hb hg hat; have HO1 := Aside0.mk ho; have HB1 := Aside0.mk hb; clear ho hb hg hat)
          go_roundg (gk - 1)
          case measure => have := HI.out; omega
          case rel => exact ⟨_, i + 1, rfl, by go_num, ⟨by have := HI.out; omega⟩, _, HST, HO1, HB1⟩
        case false.true =>
          go_wp2_with ((with_reducible refine gate_builtin (b := .append) (xs := #[.tmp 31, .tmp 37]) rfl ?_); at_builtin; refine Kd.R_append Kd.bool (w0 := w) (World.heap w).size rfl (.tmp 31) (.tmp 37) 55 4 (.bool false) 1 rfl Try.underlying55 infoB rfl (by decide) (by omega) _ o ((false != false) != true) [.bool ((false != false) != true)] (fun _ => True) (fun _ => False) rfl rfl rfl (fun _ hk => hk.elim) (fun _ _ => trivial) HO.out HB.out (Below.size HB.out) (by omega) ?_; intro v1 w1 ho hb hg hat; have HO1 := Aside0.mk ho; have HB1 := Aside0.mk hb; clear ho hb hg hat)
          go_roundg (gk - 1)
          case measure => have := HI.out; omega
          case rel => exact ⟨_, i + 1, rfl, by go_num, ⟨by have := HI.out; omega⟩, _, HST, HO1, HB1⟩
        case true.false =>
          go_wp2_with ((with_reducible refine gate_builtin (b := .append) (xs := #[.tmp 31, .tmp 37]) rfl ?_); at_builtin; refine Kd.R_append Kd.bool (w0 := w) (World.heap w).size rfl (.tmp 31) (.tmp 37) 55 4 (.bool false) 1 rfl Try.underlying55 infoB rfl (by decide) (by omega) _ o ((true != false) != false) [.bool ((true != false) != false)] (fun _ => True) (fun _ => False) rfl rfl rfl (fun _ hk => hk.elim) (fun _ _ => trivial) HO.out HB.out (Below.size HB.out) (by omega) ?_; intro v1 w1 ho hb hg hat; have HO1 := Aside0.mk ho; have HB1 := Aside0.mk hb; clear ho hb hg hat)
          go_roundg (gk - 1)
          case measure => have := HI.out; omega
          case rel => exact ⟨_, i + 1, rfl, by go_num, ⟨by have := HI.out; omega⟩, _, HST, HO1, HB1⟩
        case true.true =>
          go_wp2_with ((with_reducible refine gate_builtin (b := .append) (xs := #[.tmp 31, .tmp 37]) rfl ?_); at_builtin; refine Kd.R_append Kd.bool (w0 := w) (World.heap w).size rfl (.tmp 31) (.tmp 37) 55 4 (.bool false) 1 rfl Try.underlying55 infoB rfl (by decide) (by omega) _ o ((true != false) != true) [.bool ((true != false) != true)] (fun _ => True) (fun _ => False) rfl rfl rfl (fun _ hk => hk.elim) (fun _ _ => trivial) HO.out HB.out (Below.size HB.out) (by omega) ?_; intro v1 w1 ho hb hg hat; have HO1 := Aside0.mk ho; have HB1 := Aside0.mk hb; clear ho hb hg hat)
          go_roundg (gk - 1)
          case measure => have := HI.out; omega
          case rel => exact ⟨_, i + 1, rfl, by go_num, ⟨by have := HI.out; omega⟩, _, HST, HO1, HB1⟩
end Go.Proofs.Ytjmgemmieedkiaa.Hand
