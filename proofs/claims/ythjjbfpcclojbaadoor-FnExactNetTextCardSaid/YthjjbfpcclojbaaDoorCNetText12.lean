/- Texts of one proof, one behind the other: each tells what it proves. -/
import Derived.Test.YthjjbfpcclojbaaDoorCNetText3
import Derived.Test.YthjjbfpcclojbaaDoorCNetText4
import Derived.Lib.Builder
import Derived.Laws.Externs
import Derived.Test.YthjjbfpcclojbaaDoorCNetText11
import Derived.Lib.UnsafeStr
import Derived.Shelf.RegionOpenPlain
import Derived.Test.YthjjbfpcclojbaaDoorRows
import Derived.Test.YthjjbfpcclojbaaDoorTie
import Derived.Test.YthjjbfpcclojbaaDoorCards
import Derived.WalkKit
import Derived.ProofKit
import Derived.LaidMore
import Derived.OpenShut
import Derived.ShutString
import Derived.ChangeOld
import Derived.Below
import Derived.Stop.Joined
import Derived.SevenTiedAt

section
/- strings.Builder: copyCheck, walked. No condition. -/
set_option linter.unusedVariables false
set_option linter.unusedSimpArgs false
namespace Go.Proofs.YthjjbfpcclojbaaDoor.Pv
open Go.RowKit
set_option maxHeartbeats 1000000 in
set_option maxRecDepth 100000 in
theorem cc_used (b : Nat) (w : World) (h0 : w.cell? ⟨b, 0, none⟩ = some (.pointer (some ⟨b, 0, none⟩))) :
    Calls Tryd.prog 34 #[.pointer (some ⟨b, 0, none⟩)] w fun e w' => e = .returned (.tuple #[]) ∧ w' = w := by
  have hu := Tryd.underlying44
  have hp := Tryd.underlying42
  obtain ⟨inf, dd, zv, e1, _⟩ := T.ok 44 _ rfl
  go_enter Tryd.func34, Tryd.ntmps34
  go_wp2
  rw [Lib.run_neq_ptr_same w _ hp e1]
  go_wp2
  go_end0
  exact ⟨rfl, rfl⟩
set_option maxHeartbeats 1000000 in
set_option maxRecDepth 100000 in
theorem cc_fresh (b : Nat) (w : World) (h0 : w.cell? ⟨b, 0, none⟩ = some (.pointer none)) (hsh : w.shape? b = some (44, 2)) (hfz : w.frozen? ⟨b, 0, none⟩ = false) :
    Calls Tryd.prog 34 #[.pointer (some ⟨b, 0, none⟩)] w fun e w' => e = .returned (.tuple #[]) ∧ w' = w.setCell ⟨b, 0, none⟩ (.pointer (some ⟨b, 0, none⟩)) := by
  have hu := Tryd.underlying44
  have hp := Tryd.underlying42
  have hq := Tryd.underlying87
  obtain ⟨inf, dd, zv, e1, _, _, e2, _⟩ := T.ok 44 _ rfl
  go_enter Tryd.func34, Tryd.ntmps34
  go_wp2
  rw [Lib.run_to_unsafe w ⟨b, 0, none⟩ hp hq e1 (by rw [e2]; decide) hsh (Nat.zero_lt_succ 1)]
  simp only [Result.andThen]
  rw [Oper.upon_value]
  go_wp2
  rw [run_callFunc_extern Tryd.func45 (by kernel_rfl) (by kernel_rfl) (by kernel_rfl) (e := Extern.AbiNoEscape.same) (by kernel_rfl), Lib.run_noEscape]
  simp only [Result.andThen]
  rw [Oper.upon_value]
  go_wp2
  rw [Lib.run_from_unsafe w ⟨b, 0, none⟩ hq hp e1 hsh (by kernel_rfl)]
  simp only [Result.andThen]
  rw [Oper.upon_value]
  go_wp2
  go_end0
  exact ⟨rfl, rfl⟩
def adrS : Bool → S
  | true => .pt 0 0 0 1
  | false => .d (.v (.pointer none))
/-- A Builder and its bytes. -/
def bH (u : Bool) (l : List UInt8) : List HB := [.c 44 2 [[adrS u, .sl 1 0 l.length l.length]], .p 5 1 (bytesD l)]
theorem bH_flat (l : List UInt8) : ∀ h ∈ bH true l, FlatH h := by
  intro h hh
  simp only [bH, List.mem_cons, List.not_mem_nil, or_false] at hh
  rcases hh with rfl | rfl
  · intro r hr x hx
    simp only [List.mem_singleton] at hr
    subst hr
    simp only [List.mem_cons, List.not_mem_nil, or_false] at hx
    rcases hx with rfl | rfl <;> trivial
  · intro r hr x hx
    unfold bytesD at hr
    obtain ⟨b, _, rfl⟩ := List.mem_map.1 hr
    simp only [List.mem_singleton] at hx
    subst hx
    trivial
def ccCon : ConC := ⟨Bool × List UInt8, fun _ => True, fun g => bH g.1 g.2, fun _ => [.one (.o false [.pt 0 0 0 1])], fun g => bH true g.2, fun _ => .tup [], true⟩
theorem pt_val {e : E} {k : K} {v : Value} (hk : e.cur[0]? = some k) (hl : k.live = true) (ht : k.top = 2) (h : RelS e (.pt 0 0 0 1) v) : v = .pointer (some ⟨k.blk, 0, none⟩) := by
  cases h with
  | pt _ _ _ _ a k' hk' ht' hv =>
    rw [hk] at hk'
    cases hk'
    obtain ⟨_, h2⟩ := hv hl (by omega)
    rw [h2]
    simp
theorem two_of {arr : Array Value} {x : Value} (h : arr.size = 2) (v : Value) : arr.setIfInBounds 0 v = (arr.toList.take 0 ++ [v] ++ arr.toList.drop (0 + [v].length)).toArray := by
  obtain ⟨l⟩ := arr
  match l, h with
  | [a, b], _ => rfl
theorem cc_valid : ValidC Tryd.prog 34 ccCon := by
  refine ⟨⟨_, Tryd.func34, rfl, rfl⟩, fun (g : Bool × List UInt8) _ => ⟨fun _ => ⟨fun v hv => (by cases hv), bH_flat _⟩, Nat.le_refl _, fun b cur tk w vs hw hc hwr hs hargs => ?_⟩⟩
  obtain ⟨u, l⟩ := g
  have hlen : cur.length = 2 := hs.len
  obtain ⟨k0, h0⟩ : ∃ k, cur[0]? = some k := ⟨cur[0], List.getElem?_eq_getElem (by omega)⟩
  have hL : Lies (env b cur tk w) k0 44 2 [[adrS u, .sl 1 0 l.length l.length]] := hs.heap 0 k0 _ h0 rfl
  have hm : k0.mat = true := by
    cases h : k0.mat with
    | true => rfl
    | false => have := hL.nil h; cases this
  obtain ⟨hcap, arr, harr⟩ := hL.fix rfl hm
  obtain ⟨m1, m2, m3, arr', m4, m5, m6⟩ := hL.mat hm
  have e := (RowIs.new harr).uniq m4
  subst e
  have harr : w.heap[k0.blk]? = some (.cells arr' 44 (0, 0)) := harr
  have hcap : k0.cap = 1 := hcap
  rw [hcap] at m5
  obtain ⟨v0, h2, h3⟩ := m6 0 0 (adrS u) rfl
  have htop : k0.top = 2 := hL.top
  obtain ⟨ha1, ha2⟩ := hargs
  match vs, ha1 with
  | [p], _ =>
  have hp := pt_val (e := env b cur tk w) h0 hL.live htop (relX_s (ha2 0 _ p rfl rfl))
  subst hp
  have hcell : w.cell? ⟨k0.blk, 0, none⟩ = some v0 := by rw [RowIs.cell (w := w) m4]; exact h2
  have rt : RelX (env b cur tk w) (.tup []) (.tuple #[]) := ⟨[], rfl, rfl, fun i x u h => by cases h⟩
  cases u with
  | true =>
    have hv := pt_val (e := env b cur tk w) h0 hL.live htop h3
    subst hv
    refine (cc_used k0.blk w hcell).mono ?_
    rintro e w' ⟨rfl, rfl⟩
    exact ⟨_, cur, tk, rfl, hs, rt⟩
  | false =>
    cases h3 with
    | d _ _ h3 =>
    cases h3 with
    | v _ _ =>
    refine (cc_fresh k0.blk w hcell (by simp [World.shape?, harr, m5]) (by simp [World.frozen?, harr])).mono ?_
    rintro e w' ⟨rfl, rfl⟩
    have hst := store_rows (i := 0) (r := 0) (j := 0) (row := [adrS false, .sl 1 0 l.length l.length]) (ss := [.pt 0 0 0 1]) (vs := [.pointer (some ⟨k0.blk, 0, none⟩)]) (hb := .c 44 2 [[.pt 0 0 0 1, .sl 1 0 l.length l.length]]) hs h0 hL hm rfl (by show 0 + 1 ≤ 2; decide)
      ⟨rfl, fun i x v hx hv => by
        cases i with
        | zero => cases hx; cases hv; exact relX_s (ha2 0 _ _ rfl rfl)
        | succ i => cases hx⟩ m4 (.inl rfl)
    have hw' : w.setCell ⟨k0.blk, 0, none⟩ (.pointer (some ⟨k0.blk, 0, none⟩)) = w.setRow k0.blk (arr'.toList.take 0 ++ [Value.pointer (some ⟨k0.blk, 0, none⟩)] ++ arr'.toList.drop (0 + [Value.pointer (some ⟨k0.blk, 0, none⟩)].length)).toArray := by
      rw [setCell_eq_setRow w k0.blk 0 arr' _ (0, 0) _ harr, two_of (x := .nilIface) (by omega)]
    refine ⟨_, cur, tk, rfl, ?_, ⟨[], rfl, rfl, fun i x u h => by cases h⟩⟩
    rw [hw']
    exact hst.2
def wsCon : ConC := ⟨Bool × List UInt8 × List UInt8, fun g => g.2.1.length + g.2.2.length ≤ 1099511627776, fun g => bH g.1 g.2.1, fun g => [.one (.o false [.pt 0 0 0 1]), str g.2.2], fun g => bH true (g.2.1 ++ g.2.2),
  fun g => .tup [.p false [.v (.int .i64 g.2.2.length)], .p false [.v .nilIface]], true⟩
theorem ws_valid : ValidC Tryd.prog 16 wsCon := by
  refine validC_intro (ts := [4, 5]) wsCon Tryd.func16 rfl rfl rfl (by decide) (fun _ => Nat.le_of_ble_eq_true rfl) (fun g _ _ => ⟨fun v hv => ?_, bH_flat _⟩) (fun _ => Nat.le_refl _) ?_
  · simp only [wsCon, List.mem_cons, List.not_mem_nil, or_false] at hv
    rcases hv with rfl | rfl <;> (intro x hx; simp only [List.mem_singleton] at hx; subst hx; trivial)
  rintro ⟨u, l, s⟩ (hp : l.length + s.length ≤ 1099511627776)
  cases u
  all_goals
    ((conv => whnf); repeat' ((first | refine W_seq ?_ | refine W_block ?_ | refine W_skip ?_ | refine W_exit ?_ | refine W_reg T ?_ | refine ld1 ?_); (conv => whnf)))
    first | refine .inr (.inl ⟨_, rfl, call_own ccCon (false, l) [0, 1] 2 cc_valid trivial rfl (by decide) (.of rfl) (.cons (.same _ _ rfl) .nil) rfl rfl ?_⟩) | refine .inr (.inl ⟨_, rfl, call_own ccCon (true, l) [0, 1] 2 cc_valid trivial rfl (by decide) (.of rfl) (.cons (.same _ _ rfl) .nil) rfl rfl ?_⟩)
    have hl : (bytesD l).length = l.length := by simp [bytesD]
    have hs : (bytesD s).length = s.length := by simp [bytesD]
    ((conv => whnf); repeat' ((first | refine W_seq ?_ | refine W_block ?_ | refine W_skip ?_ | refine W_exit ?_ | refine W_reg T ?_ | refine ld1 ?_); (conv => whnf)))
    refine ⟨rfl, rfl, hl, ?_⟩
    (conv => whnf)
    refine ⟨by show (l.length + (bytesD s).length) * 1 ≤ _; omega, by show l.length + (bytesD s).length ≤ _; omega, ?_⟩
    ((conv => whnf); repeat' ((first | refine W_seq ?_ | refine W_block ?_ | refine W_skip ?_ | refine W_exit ?_ | refine W_reg T ?_ | refine ld1 ?_); (conv => whnf)))
    have e1 : HB.c 44 2 [[S.pt 0 0 0 1, S.sl 1 0 (l.length + (bytesD s).length) (l.length + (bytesD s).length)]] = HB.c 44 2 [[adrS true, .sl 1 0 (l ++ s).length (l ++ s).length]] := by rw [hs, List.length_append]; rfl
    have e2 : HB.p 5 1 (bytesD l ++ bytesD s) = HB.p 5 1 (bytesD (l ++ s)) := by simp [bytesD]
    refine W_le ⟨[(5, .one (.p false [.v .nilIface])), (4, int .i64 s.length)], bH true (l ++ s), 19, 0, 2⟩ ⟨rfl, rfl, rfl, Nat.le_refl _, ⟨e1, e2, trivial⟩, ⟨rfl, rfl, trivial⟩, rfl⟩ ?_
    exact W_ret ⟨.inr rfl, [], by show [0, 1].Nodup; decide, .of rfl, rfl⟩
end Go.Proofs.YthjjbfpcclojbaaDoor.Pv
end

section
/- strings.Builder: its string, at a Builder that holds bytes. -/
set_option linter.unusedVariables false
set_option linter.unusedSimpArgs false
namespace Go.Proofs.YthjjbfpcclojbaaDoor.Pv
open Go.RowKit
set_option maxHeartbeats 2000000 in
set_option maxRecDepth 100000 in
theorem bs_walk (b g cap : Nat) (l : List UInt8) (w : World) (hc0 : cap ≠ 0) (h0 : l ≠ []) (c0 : w.cell? ⟨b, 1, none⟩ = some (.slice (some ⟨g, 0, none⟩) l.length cap)) (cells : Nat) (hsh : w.shape? g = some (5, cells)) (hn : l.length ≤ cells) (h63 : l.length ≤ 1099511627776)
    (hcell : ∀ j x, l[j]? = some x → w.cell? ((⟨g, 0, none⟩ : Addr).add j) = some (.int .u8 x.toNat)) :
    Calls Tryd.prog 22 #[.pointer (some ⟨b, 0, none⟩)] w fun e w' => e = .returned (.string ⟨l.toArray⟩) ∧ w' = w.drew.freeze ⟨g, 0, none⟩ l.length := by
  have hu := Tryd.underlying44
  have hp := Tryd.underlying79
  have mixed : Tryd.prog.follows .mixedOrders = true := rfl
  have c1 : w.drew.cell? ⟨b, 1, none⟩ = some (.slice (some ⟨g, 0, none⟩) l.length cap) := c0
  have hSD : (Builtin.unsafeSliceData_ #[35] 79 #[.slice (some ⟨g, 0, none⟩) l.length cap]).run Tryd.prog w.drew = .ok (.pointer (some ⟨g, 0, none⟩)) w.drew := Lib.run_unsafeSliceData_row _ _ _ _ _ _ hc0
  have hUS : (Builtin.unsafeString_ #[79, 3] 9 #[.pointer (some ⟨g, 0, none⟩), .int .i64 l.length]).run Tryd.prog w.drew = .ok (.string ⟨l.toArray⟩) (w.drew.freeze ⟨g, 0, none⟩ l.length) :=
    Lib.run_unsafeString_row w.drew _ _ _ _ hp (by kernel_rfl) g cells hsh l h0 hn (by omega) hcell
  go_enter Tryd.func22, Tryd.ntmps22
  go_wp2
  go_region_o
  all_goals (go_wp2; go_ret; exact ⟨rfl, rfl⟩)
def bsCon : ConC := ⟨List UInt8, fun l => l ≠ [] ∧ l.length ≤ 1099511627776, fun l => bH true l, fun _ => [.one (.o false [.pt 0 0 0 1])], fun _ => [.dead, .dead], fun l => str l, true⟩
/-- A block of ours is changed and done with, and another. -/
theorem SimC.kill {b : B} {k0 k1 : K} {tk : Nat × Nat → Option Nat} {H : List HB} {a : Act} {w w' : World} (h : SimC b [k0, k1] tk ⟨[], H, 0, 0, 2⟩ a w) (hl : k1.live = true) (hm : k1.mat = true) (hb : Below b.base w w') (hk : ∀ k, k < w.heap.size → k ≠ k1.blk → w'.heap[k]? = w.heap[k]?) :
    SimC b [{ k0 with live := false }, { k1 with live := false }] tk ⟨[], [.dead, .dead], 0, 0, 2⟩ a w' := by
  have hlen := h.len
  have le : (mOf b [k0, k1] tk w).Le (mOf b [{ k0 with live := false }, { k1 with live := false }] tk w') := by
    refine ⟨fun k hk' => ⟨hk'.1, Nat.lt_of_lt_of_le hk'.2.1 hb.size, fun q hq hql => ?_⟩, fun k hk' => hk k hk'.2.1 fun e => hk'.2.2 k1 (by simp) hl hm e.symm⟩
    simp only [List.mem_cons, List.not_mem_nil, or_false] at hq
    rcases hq with rfl | rfl <;> cases hql
  have two : ∀ (i : Nat) k, [{ k0 with live := false }, { k1 with live := false }][i]? = some k → k.live = false := by
    intro i k hk
    have := List.mem_of_getElem? hk
    simp only [List.mem_cons, List.not_mem_nil, or_false] at this
    rcases this with rfl | rfl <;> rfl
  refine ⟨h.bel.trans hb, fun k hk1 hw => ?_, h.bs, rfl, fun i k g hk hg => ?_, fun i j k q hi hj hkl => (by rw [two i k hi] at hkl; cases hkl), fun q hq hql => ?_, fun t => trivial, h.size, h.dfr, h.tkI, fun t k ht => ?_, h.nm, h.ok0, ?_, h.n0, h.m, h.iv.mono le⟩
  · refine (hk k (Nat.lt_of_lt_of_le hk1 h.bel.size) fun e => ?_).trans (h.frm k hk1 hw)
    rcases (h.own k1 (by simp) hl hm).2 with h2 | h2
    · exact hw (by rw [e]; exact h2)
    · omega
  · have hg : [HB.dead, HB.dead][i]? = some g := hg
    have := List.mem_of_getElem? hg
    simp at this
    subst this
    exact two i k hk
  · obtain ⟨i, hi⟩ := List.getElem?_of_mem hq
    rw [two i q hi] at hql
    cases hql
  · obtain ⟨g1, g2, g3⟩ := h.tkB t k ht
    exact ⟨g1, le.ok k g2, g3⟩
  · refine cm_trans h.cm fun i k _ hk => ?_
    match i, hk with
    | 0, hk => cases hk; exact ⟨_, rfl, Nat.le_refl _, fun h => by cases h⟩
    | 1, hk => cases hk; exact ⟨_, rfl, Nat.le_refl _, fun h => by cases h⟩
theorem bs_valid : ValidC Tryd.prog 22 bsCon := by
  refine ⟨⟨_, Tryd.func22, rfl, rfl⟩, fun (l : List UInt8) (hp : l ≠ [] ∧ l.length ≤ 1099511627776) => ⟨fun _ => ⟨?_, ?_⟩, Nat.le_refl _, fun b cur tk w vs hw hc hwr hs hargs => ?_⟩⟩
  · intro x hx
    simp only [bsCon, str, List.mem_singleton] at hx
    subst hx
    trivial
  · intro h hh
    simp only [bsCon, List.mem_cons, List.not_mem_nil, or_false, or_self] at hh
    subst hh
    trivial
  obtain ⟨k0, k1, rfl⟩ : ∃ k0 k1, cur = [k0, k1] := by
    have hlen : cur.length = 2 := hs.len
    match cur, hlen with
    | [k0, k1], _ => exact ⟨k0, k1, rfl⟩
  have hL : Lies (env b [k0, k1] tk w) k0 44 2 [[.pt 0 0 0 1, .sl 1 0 l.length l.length]] := hs.heap 0 k0 _ rfl rfl
  have hL1 : Lies (env b [k0, k1] tk w) k1 5 1 ((bytesD l).map (·.map .d)) := hs.heap 1 k1 _ rfl rfl
  have hm : k0.mat = true := by
    cases h : k0.mat with
    | true => rfl
    | false => have := hL.nil h; cases this
  have hl0 : 0 < l.length := List.length_pos_iff.2 hp.1
  have hbl : ((bytesD l).map (·.map S.d)).length = l.length := by simp [bytesD]
  have hm1 : k1.mat = true := by
    cases h : k1.mat with
    | true => rfl
    | false => have := hL1.nil h; rw [this] at hbl; simp at hbl; omega
  obtain ⟨m1, m2, m3, arr, m4, m5, m6⟩ := hL.mat hm
  obtain ⟨n1, n2, n3, arr1, n4, n5, n6⟩ := hL1.mat hm1
  obtain ⟨v1, g1, g2⟩ := m6 0 1 (.sl 1 0 l.length l.length) rfl
  have htop : k0.top = 2 := hL.top
  have htop1 : k1.top = l.length + 1 := by rw [hL1.top, hbl]
  cases g2 with
  | sl _ _ _ _ A C k hkc htt hvv hlc =>
  cases hkc
  have hok := hvv hL1.live (by omega)
  unfold SlOk at hok
  rw [if_pos hm1] at hok
  have hA := hok.2 (.inl rfl)
  rw [Nat.zero_mul] at hA
  subst hA
  obtain ⟨ha1, ha2⟩ := hargs
  match vs, ha1 with
  | [p], _ =>
  have hpv := pt_val (e := env b [k0, k1] tk w) rfl hL.live htop (relX_s (ha2 0 _ p rfl rfl))
  subst hpv
  have hcell : w.cell? ⟨k0.blk, 1, none⟩ = some (.slice (some ⟨k1.blk, 0, none⟩) l.length C) := by rw [RowIs.cell (w := w) m4]; exact g1
  obtain ⟨fz, n4a, n4b⟩ := n4
  have n4a : w.heap[k1.blk]? = some (.cells arr1 5 fz) := n4a
  have n3 : l.length ≤ k1.cap := by rw [hbl] at n3; exact n3
  have hb1 := (hs.own k1 (by simp) hL1.live hm1).1
  refine (bs_walk k0.blk k1.blk C l w (by omega) hp.1 hcell arr1.size (by simp [World.shape?, n4a]) (by omega) hp.2 (fun j x hx => ?_)).mono ?_
  · obtain ⟨u, h1, h2⟩ := n6 j 0 (.d (.v (.int .u8 (x.toNat : Int)))) (by rw [cellAt_map, bytesD_cell hx]; rfl)
    cases h2 with
    | d _ _ h2 =>
    cases h2 with
    | v _ _ =>
    rw [add_plain]
    simp only [World.cell?, n4a]
    simpa using h1
  · rintro e w' ⟨rfl, rfl⟩
    refine ⟨_, _, tk, rfl, hs.kill hL1.live hm1 (Lib.below_freeze (Below.drew (Below.refl _ w)) (p := ⟨k1.blk, 0, none⟩) hb1 _) (fun k hk hne => ?_), relX_sc rfl⟩
    unfold World.freeze
    split
    · rfl
    · show (w.heap.modify k1.blk _)[k]? = w.heap[k]?
      rw [Array.getElem?_modify, if_neg (fun e => hne e.symm)]
end Go.Proofs.YthjjbfpcclojbaaDoor.Pv
end

section
/- The text of a net: the program's helpers. The conditions stand with each. -/
set_option linter.unusedVariables false
set_option linter.unusedSimpArgs false
namespace Go.Proofs.YthjjbfpcclojbaaDoor.Pv
open Go.RowKit
def matD (m : Aff) : List D := [.v (.int .i64 m.rows), .v (.int .i64 m.cols), ratsR m.W]
def wtCon : Con := ⟨Aff, fun m => [(true, rowA m)], fun _ => True, fun _ m => .one (.p true (matD m)), false⟩
theorem weights_valid : Valid Tryd.prog 19 wtCon := by
  refine valid_cell T (t := 53) (r := 2) wtCon rfl Tryd.func19 rfl rfl rfl (fun _ => Nat.le_of_ble_eq_true rfl) ?_
  rintro (m : Aff) - nm nx
  ((conv => whnf); repeat' ((first | refine W_seq ?_ | refine W_block ?_ | refine W_skip ?_ | refine W_exit ?_ | refine W_reg T ?_ | refine ld1 ?_); (conv => whnf)))
  exact W_ret ⟨.inr rfl, 1, matD m, rfl, rfl, rfl, .one (.same _ _ _ rfl rfl)⟩
def mrowCon : Con := ⟨Aff × Nat, fun g => [(true, matD g.1), (false, [.v (.int .i64 g.2)])], fun g => (0 ≤ g.1.cols ∧ g.1.cols ≤ 20000) ∧ g.2 < 20000 ∧ ((g.2 : Int) + 1) * g.1.cols ≤ g.1.W.length, fun _ g => .one (.p false [ratsR (wRow g.1 g.2)]), false⟩
theorem mrow_valid : Valid Tryd.prog 20 mrowCon := by
  refine valid_intro (ts := [4]) mrowCon Tryd.func20 rfl rfl rfl (by decide) (fun _ => Nat.le_of_ble_eq_true rfl) ?_
  rintro ⟨m, r⟩ (hp : (0 ≤ m.cols ∧ m.cols ≤ 20000) ∧ r < 20000 ∧ ((r : Int) + 1) * m.cols ≤ m.W.length) nm nx
  obtain ⟨⟨p1, p2⟩, p3, p4⟩ := hp
  have b0 : 0 ≤ (r : Int) * m.cols := Int.mul_nonneg (Int.natCast_nonneg r) p1
  have b1 := (mul_le (a := (r : Int)) ⟨Int.natCast_nonneg r, by omega⟩ (b := m.cols) ⟨p1, by omega⟩).2
  have b2 : ((r : Int) + 1) * m.cols = (r : Int) * m.cols + m.cols := by rw [Int.add_mul, Int.one_mul]
  rw [b2] at p4
  ((conv => whnf); repeat' ((first | refine W_seq ?_ | refine W_block ?_ | refine W_skip ?_ | refine W_exit ?_ | refine W_reg T ?_ | refine ld1 ?_); (conv => whnf)))
  refine ⟨by show -9223372036854775808 ≤ (r : Int) * m.cols ∧ (r : Int) * m.cols ≤ 9223372036854775807; omega, ?_⟩
  ((conv => whnf); repeat' ((first | refine W_seq ?_ | refine W_block ?_ | refine W_skip ?_ | refine W_exit ?_ | refine W_reg T ?_ | refine ld1 ?_); (conv => whnf)))
  refine ⟨by show -9223372036854775808 ≤ (r : Int) + 1 ∧ (r : Int) + 1 ≤ 9223372036854775807; omega, ?_⟩
  ((conv => whnf); repeat' ((first | refine W_seq ?_ | refine W_block ?_ | refine W_skip ?_ | refine W_exit ?_ | refine W_reg T ?_ | refine ld1 ?_); (conv => whnf)))
  refine ⟨by show -9223372036854775808 ≤ ((r : Int) + 1) * m.cols ∧ ((r : Int) + 1) * m.cols ≤ 9223372036854775807; rw [b2]; omega, ?_⟩
  ((conv => whnf); repeat' ((first | refine W_seq ?_ | refine W_block ?_ | refine W_skip ?_ | refine W_exit ?_ | refine W_reg T ?_ | refine ld1 ?_); (conv => whnf)))
  refine ⟨by show 0 ≤ ((r : Int) + 1) * m.cols; omega, by show 0 ≤ (r : Int) * m.cols; omega, ?_⟩
  ((conv => whnf); repeat' ((first | refine W_seq ?_ | refine W_block ?_ | refine W_skip ?_ | refine W_exit ?_ | refine W_reg T ?_ | refine ld1 ?_); (conv => whnf)))
  refine ⟨by show ((r : Int) * m.cols).toNat ≤ (((r : Int) + 1) * m.cols).toNat; omega, by show (((r : Int) + 1) * m.cols).toNat ≤ (m.W.map rowR).length; rw [List.length_map]; omega, ?_⟩
  ((conv => whnf); repeat' ((first | refine W_seq ?_ | refine W_block ?_ | refine W_skip ?_ | refine W_exit ?_ | refine W_reg T ?_ | refine ld1 ?_); (conv => whnf)))
  have hn1 : ((r : Int) * m.cols).toNat = r * m.cols.toNat := by rw [Int.toNat_mul (Int.natCast_nonneg r) p1, Int.toNat_natCast]
  have hn2 : (((r : Int) + 1) * m.cols).toNat - ((r : Int) * m.cols).toNat = m.cols.toNat := by omega
  have eW : D.li none 3 (((m.W.map rowR).drop ((r : Int) * m.cols).toNat).take ((((r : Int) + 1) * m.cols).toNat - ((r : Int) * m.cols).toNat)) = ratsR (wRow m r) := by
    rw [hn2, hn1]
    simp [ratsR, wRow, List.map_drop, List.map_take]
  exact W_ret ⟨.inr rfl, .one (.p _ _ _ (.cons (.d _ _ rfl eW) .nil))⟩
def putCon : ConC := ⟨Bool × List UInt8 × List (List UInt8), fun g => g.2.1.length + (Lib.join g.2.2 [32]).length + 1 ≤ 1099511627776 ∧ g.2.2.length ≤ 1099511627776, fun g => bH g.1 g.2.1, fun g => [.one (.p false [strsD g.2.2]), .one (.o false [.pt 0 0 0 1])],
  fun g => bH true (g.2.1 ++ (Lib.join g.2.2 [32] ++ [10])), fun _ => .tup [], true⟩
theorem put_valid : ValidC Tryd.prog 15 putCon := by
  refine validC_intro (ts := []) putCon Tryd.func15 rfl rfl rfl (by decide) (fun _ => Nat.le_of_ble_eq_true rfl) (fun g _ _ => ⟨fun v hv => (by cases hv), bH_flat _⟩) (fun _ => Nat.le_refl _) ?_
  rintro ⟨u, l, xs⟩ (hp : l.length + (Lib.join xs [32]).length + 1 ≤ 1099511627776 ∧ xs.length ≤ 1099511627776)
  have hb : (Lib.join xs [32] ++ [10]).length = (Lib.join xs [32]).length + 1 := by simp
  cases u
  all_goals
    ((conv => whnf); repeat' ((first | refine W_seq ?_ | refine W_block ?_ | refine W_skip ?_ | refine W_exit ?_ | refine W_reg T ?_ | refine ld1 ?_); (conv => whnf)))
    refine .inl ⟨joinCon, (xs, [32]), join_valid, ⟨hp.2, by show (Lib.join xs [32]).length ≤ _; omega⟩, .cons (.same _ _) (.cons (.same _ _) .nil), ?_⟩
    ((conv => whnf); repeat' ((first | refine W_seq ?_ | refine W_block ?_ | refine W_skip ?_ | refine W_exit ?_ | refine W_reg T ?_ | refine ld1 ?_); (conv => whnf)))
    refine ⟨by show (Lib.join xs [32]).length + ([10] : List UInt8).length ≤ _; simp; omega, ?_⟩
    (conv => whnf)
    first | refine .inr (.inl ⟨_, rfl, call_own wsCon (false, l, Lib.join xs [32] ++ [10]) [0, 1] 2 ws_valid (by show l.length + (Lib.join xs [32] ++ [10]).length ≤ _; omega) rfl (by decide) (.of rfl) (.cons (.same _ _ rfl) (.cons (.same _ _ rfl) .nil)) rfl rfl ?_⟩) | refine .inr (.inl ⟨_, rfl, call_own wsCon (true, l, Lib.join xs [32] ++ [10]) [0, 1] 2 ws_valid (by show l.length + (Lib.join xs [32] ++ [10]).length ≤ _; omega) rfl (by decide) (.of rfl) (.cons (.same _ _ rfl) (.cons (.same _ _ rfl) .nil)) rfl rfl ?_⟩)
    ((conv => whnf); repeat' ((first | refine W_seq ?_ | refine W_block ?_ | refine W_skip ?_ | refine W_exit ?_ | refine W_reg T ?_ | refine ld1 ?_); (conv => whnf)))
    exact ⟨.inl rfl, [], by show [0, 1].Nodup; decide, .of rfl, rfl⟩
end Go.Proofs.YthjjbfpcclojbaaDoor.Pv
end

section
/- The text of a net: the program's. No condition but on its length. -/
set_option linter.unusedVariables false
set_option linter.unusedSimpArgs false
namespace Go.Proofs.YthjjbfpcclojbaaDoor.Pv
open Go.RowKit
def bl2 (l : List UInt8) : List HB := [.c 44 2 [[.pt 1 0 0 1, .sl 2 0 l.length l.length]], .p 5 1 (bytesD l)]
def nb (ms : List Aff) : HB := .p 29 1 [[netD ms]]
def clo : Nat × X := (4, .one (.o false [.fn (.func 15) [] [.pt 1 0 0 1]]))
def pSt (ms : List Aff) (nx k : Nat) : St := ⟨[(1, .one (.o false [.pt 0 0 0 1])), (3, .one (.o false [.pt 1 0 0 1])), clo, (25, .one (.p false [netD ms])), (26, int .i64 (ms.map rowA).length), (27, int .i64 k)], nb ms :: bl2 (outTx ms k), 76, nx, 0⟩
def pm1 (ms : List Aff) (nx k : Nat) (l : List UInt8) : St := ⟨[(1, .one (.o false [.pt 0 0 0 1])), (3, .one (.o false [.pt 1 0 0 1])), clo, (6, .one (.o false [.pt 3 0 0 1])), (25, .one (.p false [netD ms])), (26, int .i64 (ms.map rowA).length), (27, int .i64 k)],
  nb ms :: (bl2 l ++ [.p 39 4 [rowA (at_ ms k)]]), 76, nx, 0⟩
def pm3 (ms : List Aff) (nx k r : Nat) : St := ⟨[(1, .one (.o false [.pt 0 0 0 1])), (3, .one (.o false [.pt 1 0 0 1])), clo, (6, .one (.o false [.pt 3 0 0 1])), (7, .one (.o false [.pt 4 0 0 1])), (25, .one (.p false [netD ms])), (26, int .i64 (ms.map rowA).length), (27, int .i64 k), (43, int .i64 (at_ ms k).rows), (44, int .i64 r)],
  nb ms :: (bl2 (inTx ms k r) ++ [.p 39 4 [rowA (at_ ms k)], .p 53 3 [matD (at_ ms k)]]), 76, nx, 0⟩
def wd (m : Aff) (r j : Nat) : List (List UInt8) := ((wRow m r).take j).map txt
def pm4 (ms : List Aff) (nx k r j : Nat) : St := ⟨[(1, .one (.o false [.pt 0 0 0 1])), (3, .one (.o false [.pt 1 0 0 1])), clo, (6, .one (.o false [.pt 3 0 0 1])), (7, .one (.o false [.pt 4 0 0 1])), (8, int .i64 r), (9, .one (.o false [.sl 5 0 j j])), (25, .one (.p false [netD ms])), (26, int .i64 (ms.map rowA).length), (27, int .i64 k), (43, int .i64 (at_ ms k).rows), (44, int .i64 r),
    (50, .one (.p false [ratsR (wRow (at_ ms k) r)])), (51, int .i64 ((wRow (at_ ms k) r).map rowR).length), (52, int .i64 j)],
  nb ms :: (bl2 (inTx ms k r) ++ [.p 39 4 [rowA (at_ ms k)], .p 53 3 [matD (at_ ms k)], .p 9 1 ((wd (at_ ms k) r j).map fun x => [.v (.string ⟨⟨x⟩⟩)])]), 76, nx, 0⟩
theorem tl_join (x : RtD) (v : List RtD) : tl (x :: v) = 32 :: Lib.join ((x :: v).map txt) [32] := by
  rw [List.map_cons, Lib.join_cons]
  simp [tl, Lib.joinTail]
  rfl
theorem rowTx_join (m : Aff) (r : Nat) (h : r < m.B.length) : rowTx m r = Lib.join ((wRow m r ++ [m.B.getD r default]).map txt) [32] ++ [10] := by
  have e1 : bRow m r = [m.B.getD r default] := by
    unfold bRow
    rw [List.drop_eq_getElem_cons h, List.take_succ_cons, List.take_zero, List.getD_eq_getElem?_getD, List.getElem?_eq_getElem h]
    rfl
  have e2 : tl (wRow m r) ++ tl (bRow m r) = tl (wRow m r ++ [m.B.getD r default]) := by
    rw [e1]
    simp [tl]
  unfold rowTx
  rw [e2]
  cases hw : wRow m r with
  | nil => rw [List.nil_append, tl_join]; rfl
  | cons x v => rw [List.cons_append, tl_join]; rfl
theorem ArgLe.all' {h : Nat → Option HB} {own : Bool} {b top el sz : Nat} {rows rows' : List (List D)} (hb : h b = some (.p el sz rows)) (ht : rows.length = top) (ho : own = true) (e : rows = rows') : ArgLe h own (.one (.o false [.sl b 0 top top])) (false, [.li none sz rows']) := e ▸ .all b top el sz rows hb ht ho
def strR (xs : List (List UInt8)) : List (List D) := xs.map fun x => [.v (.string ⟨⟨x⟩⟩)]
set_option maxHeartbeats 4000000 in
set_option maxRecDepth 10000 in
theorem netText_valid : Valid Tryd.prog 7 ntCon := by
  refine valid_intro (ts := [2]) ntCon Tryd.func7 rfl rfl rfl (by decide) (fun _ => Nat.le_of_ble_eq_true rfl) ?_
  rintro (ms : List Aff) (hp : MsOk ms ∧ (NOk ms → (netTx ms).length ≤ 1099511627776)) nm nx
  obtain ⟨hms, hlen⟩ := hp
  ((conv => whnf); repeat' ((first | refine W_seq ?_ | refine W_block ?_ | refine W_skip ?_ | refine W_exit ?_ | refine W_reg T ?_ | refine ld1 ?_); (conv => whnf)))
  refine .inl ⟨netCon rokF, ms, netOk_valid ratOk_valid, hms, .cons (.same _ _) .nil, ?_⟩
  ((conv => whnf); repeat' ((first | refine W_seq ?_ | refine W_block ?_ | refine W_skip ?_ | refine W_exit ?_ | refine W_reg T ?_ | refine ld1 ?_); (conv => whnf)))
  refine W_cond rfl (fun h => ?_) (fun h => ?_)
  · have h : (!decide (NetIs rokF ms)) = true := h
    have h : ¬NOk ms := by simpa using h
    ((conv => whnf); repeat' ((first | refine W_seq ?_ | refine W_block ?_ | refine W_skip ?_ | refine W_exit ?_ | refine W_reg T ?_ | refine ld1 ?_); (conv => whnf)))
    refine W_ret ⟨.inr rfl, .one (.p _ _ _ (.cons (.v _ _ ?_) .nil))⟩
    rw [if_neg h]
  · have h : (!decide (NetIs rokF ms)) = false := h
    have h : NOk ms := by simpa using h
    have hL := hlen h
    have hm1 : ms.length ≤ 10000 := h.1.2
    have h0 := outTx_mono ms (k := 0) (Nat.zero_le _) (Nat.le_refl _)
    have e0 : outTx ms 0 = [110, 101, 116, 32] ++ decT ms.length ++ [10] := by simp [outTx]
    rw [e0] at h0
    have hL' : (outTx ms ms.length).length ≤ 1099511627776 := hL
    simp only [List.length_append, List.length_cons, List.length_nil] at h0
    have hmm : (ms.map rowA).length = ms.length := by simp
    ((conv => whnf); repeat' ((first | refine W_seq ?_ | refine W_block ?_ | refine W_skip ?_ | refine W_exit ?_ | refine ld1 ?_); (conv => whnf)))
    refine W_reg T ?_
    ((conv => whnf); repeat' ((first | refine W_seq ?_ | refine W_block ?_ | refine W_skip ?_ | refine W_exit ?_ | refine ld1 ?_); (conv => whnf)))
    refine W_le ⟨[(1, .one (.o false [.pt 0 0 0 1])), (3, .one (.o false [.pt 1 0 0 1]))], [nb ms, .p 44 2 [[.v (.pointer none), .v (.slice none 0 0)]]], 76, nx, 0⟩ (by (refine St.le_mk ?_ ?_ ?_ ?_ ?_ ?_ ?_ <;> kernel_rfl)) ?_
    refine W_nilBox 1 1 5 1 rfl rfl ⟨[(1, .one (.o false [.pt 0 0 0 1])), (3, .one (.o false [.pt 1 0 0 1]))], [nb ms, .c 44 2 [[.d (.v (.pointer none)), .sl 2 0 0 0]], .p 5 1 []], 76, nx, 0⟩ rfl ?_
    ((conv => whnf); repeat' ((first | refine W_seq ?_ | refine W_block ?_ | refine W_skip ?_ | refine W_exit ?_ | refine W_reg T ?_ | refine ld1 ?_); (conv => whnf)))
    refine .inl ⟨numCon, ((ms.map rowA).length : Int), itoa_valid, ⟨by omega, by simp; omega⟩, .cons (.same _ _) .nil, ?_⟩
    ((conv => whnf); repeat' ((first | refine W_seq ?_ | refine W_block ?_ | refine W_skip ?_ | refine W_exit ?_ | refine W_reg T ?_ | refine ld1 ?_); (conv => whnf)))
    have j0 : Lib.join [[110, 101, 116], decT ((ms.map rowA).length : Int).toNat] [32] ++ [10] = outTx ms 0 := by
      rw [hmm, e0, Lib.join_cons]
      simp [Lib.joinTail]
    have j1 := congrArg List.length j0
    rw [e0] at j1
    simp only [List.length_append, List.length_cons, List.length_nil] at j1
    refine .inr (.inr ⟨_, [], [.pt 1 0 0 1], rfl, call_own putCon (false, [], [[110, 101, 116], decT ((ms.map rowA).length : Int).toNat]) [1, 2] 4 put_valid ⟨by show 0 + (Lib.join [[110, 101, 116], decT ((ms.map rowA).length : Int).toNat] [32]).length + 1 ≤ _; omega, by show 2 ≤ 1099511627776; decide⟩ rfl (by decide) (.of rfl)
      (.cons (.data _ (false, [strsD [[110, 101, 116], decT ((ms.map rowA).length : Int).toNat]]) (.all _ _ _ _ _ rfl rfl rfl)) (.cons (.same _ _ rfl) .nil)) rfl rfl ?_⟩)
    ((conv => whnf); repeat' ((first | refine W_seq ?_ | refine W_block ?_ | refine W_skip ?_ | refine W_exit ?_ | refine W_reg T ?_ | refine ld1 ?_); (conv => whnf)))
    have j2 : HB.c 44 2 [[.pt 1 0 0 1, .sl 2 0 (Lib.join [[110, 101, 116], decT ((ms.map rowA).length : Int).toNat] [32] ++ [10]).length (Lib.join [[110, 101, 116], decT ((ms.map rowA).length : Int).toNat] [32] ++ [10]).length]] = HB.c 44 2 [[.pt 1 0 0 1, .sl 2 0 (outTx ms 0).length (outTx ms 0).length]] := by rw [j0]
    refine W_loop (ι := Nat) (fun k => k ≤ ms.length) (pSt ms nx) (fun k => ms.length - k) 0 (Nat.zero_le _) ⟨rfl, rfl, rfl, Nat.zero_le _, ⟨rfl, j2, congrArg (fun l => HB.p _ 1 (bytesD l)) j0, trivial⟩, ⟨rfl, rfl, rfl, rfl, rfl, rfl, trivial⟩, rfl⟩ ?_
    intro k hk
    ((conv => whnf); repeat' ((first | refine W_seq ?_ | refine W_block ?_ | refine W_skip ?_ | refine W_exit ?_ | refine W_reg T ?_ | refine ld1 ?_); (conv => whnf)))
    refine W_cond rfl (fun h1 => ?_) (fun h1 => ?_)
    · have h1 : k < ms.length := by simpa using h1
      have hm := at_mem h1
      have hk1 := outTx_mono ms (k := k + 1) (n := ms.length) (by omega) (Nat.le_refl _)
      rw [outTx_succ ms h1] at hk1
      simp only [mapTx, List.length_append] at hk1
      obtain ⟨f1, f2, f3, f4, f5, f6, f7⟩ := mapOk_iff.1 (h.2.1 k h1).1
      ((conv => whnf); repeat' ((first | refine W_seq ?_ | refine W_block ?_ | refine W_skip ?_ | refine W_exit ?_ | refine W_reg T ?_ | refine ld1 ?_); (conv => whnf)))
      refine ⟨Int.natCast_nonneg k, by show (k : Int) < (ms.map rowA).length; omega, _, inferInstance, ?_⟩
      ((conv => whnf); repeat' ((first | refine W_seq ?_ | refine W_block ?_ | refine W_skip ?_ | refine W_exit ?_ | refine ld1 ?_); (conv => whnf)))
      refine W_le (pm1 ms nx k (outTx ms k)) (by (refine St.le_mk ?_ ?_ ?_ ?_ ?_ ?_ ?_ <;> kernel_rfl)) ?_
      ((conv => whnf); repeat' ((first | refine W_seq ?_ | refine W_block ?_ | refine W_skip ?_ | refine W_exit ?_ | refine ld1 ?_); (conv => whnf)))
      refine W_draw T 8 rfl (by kernel_rfl) ?_
      ((conv => whnf); repeat' ((first | refine W_seq ?_ | refine W_block ?_ | refine W_skip ?_ | refine W_exit ?_ | refine W_reg T ?_ | refine ld1 ?_); (conv => whnf)))
      have jm : Lib.join [[109, 97, 112], decT (at_ ms k).rows.toNat, decT (at_ ms k).cols.toNat] [32] ++ [10] = headTx (at_ ms k) := by
        rw [Lib.join_cons]
        simp [Lib.joinTail, headTx]
      have jl := congrArg List.length jm
      simp only [List.length_append, List.length_cons, List.length_nil] at jl
      refine ⟨numCon, (at_ ms k).rows, itoa_valid, ⟨f1.1, by omega⟩, .cons (.same _ _) .nil, ?_⟩
      ((conv => whnf); repeat' ((first | refine W_seq ?_ | refine W_block ?_ | refine W_skip ?_ | refine W_exit ?_ | refine W_reg T ?_ | refine ld1 ?_); (conv => whnf)))
      refine ⟨numCon, (at_ ms k).cols, itoa_valid, ⟨f2.1, by omega⟩, .cons (.same _ _) .nil, ?_⟩
      ((conv => whnf); repeat' ((first | refine W_seq ?_ | refine W_block ?_ | refine W_skip ?_ | refine W_exit ?_ | refine W_reg T ?_ | refine ld1 ?_); (conv => whnf)))
      refine .inr (.inr ⟨_, [], [.pt 1 0 0 1], rfl, call_own putCon (true, outTx ms k, [[109, 97, 112], decT (at_ ms k).rows.toNat, decT (at_ ms k).cols.toNat]) [1, 2] 12 put_valid
        ⟨by show (outTx ms k).length + (Lib.join [[109, 97, 112], decT (at_ ms k).rows.toNat, decT (at_ ms k).cols.toNat] [32]).length + 1 ≤ _; omega, by show 3 ≤ 1099511627776; decide⟩ rfl (by decide) (.of rfl)
        (.cons (.data _ (false, [strsD [[109, 97, 112], decT (at_ ms k).rows.toNat, decT (at_ ms k).cols.toNat]]) (.all _ _ _ _ _ rfl rfl rfl)) (.cons (.same _ _ rfl) .nil)) rfl rfl ?_⟩)
      ((conv => whnf); repeat' ((first | refine W_seq ?_ | refine W_block ?_ | refine W_skip ?_ | refine W_exit ?_ | refine ld1 ?_); (conv => whnf)))
      have j3 : outTx ms k ++ (Lib.join [[109, 97, 112], decT (at_ ms k).rows.toNat, decT (at_ ms k).cols.toNat] [32] ++ [10]) = inTx ms k 0 := by rw [jm]; simp [inTx, rowsTx]
      refine W_le (pm1 ms nx k (inTx ms k 0)) ⟨rfl, rfl, rfl, Nat.zero_le _, ⟨rfl, congrArg (fun l : List UInt8 => HB.c 44 2 [[.pt 1 0 0 1, .sl 2 0 l.length l.length]]) j3, congrArg (fun l => HB.p _ 1 (bytesD l)) j3, rfl, trivial⟩, ⟨rfl, rfl, rfl, rfl, rfl, rfl, rfl, trivial⟩, rfl⟩ ?_
      ((conv => whnf); repeat' ((first | refine W_seq ?_ | refine W_block ?_ | refine W_skip ?_ | refine W_exit ?_ | refine W_reg T ?_ | refine ld1 ?_); (conv => whnf)))
      refine .inl ⟨wtCon, at_ ms k, weights_valid, trivial, .cons (.same _ _) .nil, ?_⟩
      ((conv => whnf); repeat' ((first | refine W_seq ?_ | refine W_block ?_ | refine W_skip ?_ | refine W_exit ?_ | refine W_reg T ?_ | refine ld1 ?_); (conv => whnf)))
      refine W_loop (ι := Nat) (fun r => r ≤ (at_ ms k).rows.toNat) (pm3 ms nx k) (fun r => (at_ ms k).rows.toNat - r) 0 (Nat.zero_le _) (by (refine St.le_mk ?_ ?_ ?_ ?_ ?_ ?_ ?_ <;> kernel_rfl)) ?_
      intro r hr
      ((conv => whnf); repeat' ((first | refine W_seq ?_ | refine W_block ?_ | refine W_skip ?_ | refine W_exit ?_ | refine W_reg T ?_ | refine ld1 ?_); (conv => whnf)))
      refine W_cond rfl (fun h2 => ?_) (fun h2 => ?_)
      · have h2 : r < (at_ ms k).rows.toNat := by simp at h2; omega
        have hrow : ((r : Int) + 1) * (at_ ms k).cols ≤ (at_ ms k).W.length := by
          rw [f3]
          exact Int.mul_le_mul_of_nonneg_right (by omega) f2.1
        have hms1 := hms.2 _ hm
        have vW : VOk (wRow (at_ ms k) r) := ⟨by have := hms1.1.1; simp [wRow]; omega, fun g hg => by
          have hg := List.mem_of_mem_drop (List.mem_of_mem_take hg)
          exact ⟨hms1.1.2 g hg, List.all_eq_true.1 f6 g hg⟩⟩
        have hwl := vW.1
        have hr1 := rowsTx_mono (at_ ms k) (r := r + 1) (n := (at_ ms k).rows.toNat) (by omega)
        rw [rowsTx_succ, List.length_append] at hr1
        have hin : (inTx ms k r).length = (outTx ms k).length + (headTx (at_ ms k)).length + (rowsTx (at_ ms k) r).length := by simp [inTx]; omega
        ((conv => whnf); repeat' ((first | refine W_seq ?_ | refine W_block ?_ | refine W_skip ?_ | refine W_exit ?_ | refine W_reg T ?_ | refine ld1 ?_); (conv => whnf)))
        refine .inl ⟨mrowCon, (at_ ms k, r), mrow_valid, ⟨f2, by show r < 20000; omega, hrow⟩, .cons (.same _ _) (.cons (.same _ _) .nil), ?_⟩
        ((conv => whnf); repeat' ((first | refine W_seq ?_ | refine W_block ?_ | refine W_skip ?_ | refine W_exit ?_ | refine W_reg T ?_ | refine ld1 ?_); (conv => whnf)))
        refine W_loop (ι := Nat) (fun j => j ≤ (wRow (at_ ms k) r).length) (pm4 ms nx k r) (fun j => (wRow (at_ ms k) r).length - j) 0 (Nat.zero_le _) (by (refine St.le_mk ?_ ?_ ?_ ?_ ?_ ?_ ?_ <;> kernel_rfl)) ?_
        intro j hj
        ((conv => whnf); repeat' ((first | refine W_seq ?_ | refine W_block ?_ | refine W_skip ?_ | refine W_exit ?_ | refine W_reg T ?_ | refine ld1 ?_); (conv => whnf)))
        refine W_cond rfl (fun h3 => ?_) (fun h3 => ?_)
        · have h3 : j < (wRow (at_ ms k) r).length := by simpa using h3
          have hg := vW.2 ((wRow (at_ ms k) r).getD j default) (by simp [h3])
          ((conv => whnf); repeat' ((first | refine W_seq ?_ | refine W_block ?_ | refine W_skip ?_ | refine W_exit ?_ | refine W_reg T ?_ | refine ld1 ?_); (conv => whnf)))
          refine ⟨Int.natCast_nonneg j, by show (j : Int) < ((wRow (at_ ms k) r).map rowR).length; rw [List.length_map]; omega, _, inferInstance, ?_⟩
          ((conv => whnf); repeat' ((first | refine W_seq ?_ | refine W_block ?_ | refine W_skip ?_ | refine W_exit ?_ | refine ld1 ?_); (conv => whnf)))
          refine W_le ⟨(11, .one (.o false [.pt 6 0 0 1])) :: (pm4 ms nx k r j).tm, (pm4 ms nx k r j).H ++ [.p 58 3 [rowR ((wRow (at_ ms k) r).getD j default)]], 76, nx, 0⟩ (by (refine St.le_mk ?_ ?_ ?_ ?_ ?_ ?_ ?_ <;> kernel_rfl)) ?_
          ((conv => whnf); repeat' ((first | refine W_seq ?_ | refine W_block ?_ | refine W_skip ?_ | refine W_exit ?_ | refine W_reg T ?_ | refine ld1 ?_); (conv => whnf)))
          refine .inl ⟨txtCon, (wRow (at_ ms k) r).getD j default, text_valid, hg, .cons (.same _ _) .nil, ?_⟩
          ((conv => whnf); repeat' ((first | refine W_seq ?_ | refine W_block ?_ | refine W_skip ?_ | refine W_exit ?_ | refine W_reg T ?_ | refine ld1 ?_); (conv => whnf)))
          refine ⟨rfl, rfl, by show (strR (wd (at_ ms k) r j)).length = j; simp [strR, wd]; omega, ?_⟩
          (conv => whnf)
          refine ⟨rfl, rfl, rfl, ?_⟩
          (conv => whnf)
          refine ⟨by show (j + 1) * 16 ≤ _; omega, by show j + 1 ≤ _; omega, ?_⟩
          ((conv => whnf); repeat' ((first | refine W_seq ?_ | refine W_block ?_ | refine W_skip ?_ | refine W_exit ?_ | refine W_reg T ?_ | refine ld1 ?_); (conv => whnf)))
          refine ⟨by omega, ?_⟩
          ((conv => whnf); repeat' ((first | refine W_seq ?_ | refine W_block ?_ | refine W_skip ?_ | refine W_exit ?_ | refine W_reg T ?_ | refine ld1 ?_); (conv => whnf)))
          have e5 : strR (wd (at_ ms k) r j) ++ [[D.v (.string ⟨⟨txt ((wRow (at_ ms k) r).getD j default)⟩⟩)]] = strR (wd (at_ ms k) r (j + 1)) := by
            unfold wd strR
            rw [take_snoc _ h3]
            simp
          exact ⟨j + 1, h3, by omega, rfl, rfl, rfl, Nat.zero_le _, ⟨rfl, rfl, rfl, rfl, rfl, congrArg (HB.p _ 1) e5, trivial⟩, ⟨rfl, rfl, rfl, rfl, rfl, rfl, rfl, rfl, rfl, rfl, rfl, rfl, rfl, rfl, rfl, trivial⟩, rfl⟩
        · have h3 : j = (wRow (at_ ms k) r).length := by simp at h3; omega
          subst h3
          have hbl : r < (at_ ms k).B.length := by omega
          have hgb : Rok ((at_ ms k).B.getD r default) ∧ rokF ((at_ ms k).B.getD r default) = true := by
            have hmem : (at_ ms k).B.getD r default ∈ (at_ ms k).B := by simp [hbl]
            exact ⟨hms1.2.2 _ hmem, List.all_eq_true.1 f7 _ hmem⟩
          ((conv => whnf); repeat' ((first | refine W_seq ?_ | refine W_block ?_ | refine W_skip ?_ | refine W_exit ?_ | refine W_reg T ?_ | refine ld1 ?_); (conv => whnf)))
          refine ⟨Int.natCast_nonneg r, by show (r : Int) < ((at_ ms k).B.map rowR).length; rw [List.length_map]; omega, _, inferInstance, ?_⟩
          ((conv => whnf); repeat' ((first | refine W_seq ?_ | refine W_block ?_ | refine W_skip ?_ | refine W_exit ?_ | refine W_reg T ?_ | refine ld1 ?_); (conv => whnf)))
          refine .inl ⟨txtCon, (at_ ms k).B.getD r default, text_valid, hgb, .cons (.same _ _) .nil, ?_⟩
          ((conv => whnf); repeat' ((first | refine W_seq ?_ | refine W_block ?_ | refine W_skip ?_ | refine W_exit ?_ | refine W_reg T ?_ | refine ld1 ?_); (conv => whnf)))
          have ewd : wd (at_ ms k) r (wRow (at_ ms k) r).length = (wRow (at_ ms k) r).map txt := by simp [wd]
          refine ⟨rfl, rfl, by show (strR (wd (at_ ms k) r (wRow (at_ ms k) r).length)).length = (wRow (at_ ms k) r).length; simp [strR, wd], ?_⟩
          (conv => whnf)
          refine ⟨rfl, rfl, rfl, ?_⟩
          (conv => whnf)
          refine ⟨by show ((wRow (at_ ms k) r).length + 1) * 16 ≤ _; omega, by show (wRow (at_ ms k) r).length + 1 ≤ _; omega, ?_⟩
          (conv => whnf)
          obtain ⟨ws, hws⟩ : ∃ ws, ws = (wRow (at_ ms k) r ++ [(at_ ms k).B.getD r default]).map txt := ⟨_, rfl⟩
          have hj := rowTx_join (at_ ms k) r hbl
          rw [← hws] at hj
          have hjl := congrArg List.length hj
          simp only [List.length_append, List.length_cons, List.length_nil] at hjl
          have ers : strR (wd (at_ ms k) r (wRow (at_ ms k) r).length) ++ [[D.v (.string ⟨⟨txt ((at_ ms k).B.getD r default)⟩⟩)]] = ws.map fun x => [.v (.string ⟨⟨x⟩⟩)] := by
            rw [hws, ewd]
            simp [strR]
          have hwsl : ws.length ≤ 1099511627776 := by rw [hws]; simp; omega
          refine .inr (.inr ⟨_, [], [.pt 1 0 0 1], rfl, call_own putCon (true, inTx ms k r, ws) [1, 2] 7 put_valid
            ⟨by show (inTx ms k r).length + (Lib.join ws [32]).length + 1 ≤ _; omega, hwsl⟩ rfl (by decide) (.of rfl)
            (.cons (.data _ (false, [strsD ws]) (.all' rfl (by show (strR (wd (at_ ms k) r (wRow (at_ ms k) r).length) ++ [[_]]).length = (wRow (at_ ms k) r).length + 1; simp [strR, wd]) rfl ers)) (.cons (.same _ _ rfl) .nil)) rfl rfl ?_⟩)
          ((conv => whnf); repeat' ((first | refine W_seq ?_ | refine W_block ?_ | refine W_skip ?_ | refine W_exit ?_ | refine W_reg T ?_ | refine ld1 ?_); (conv => whnf)))
          refine ⟨by omega, ?_⟩
          ((conv => whnf); repeat' ((first | refine W_seq ?_ | refine W_block ?_ | refine W_skip ?_ | refine W_exit ?_ | refine W_reg T ?_ | refine ld1 ?_); (conv => whnf)))
          have e7 : inTx ms k r ++ (Lib.join ws [32] ++ [10]) = inTx ms k (r + 1) := by
            rw [← hj]
            simp [inTx, rowsTx_succ]
          exact ⟨r + 1, h2, by omega, rfl, rfl, rfl, Nat.zero_le _, ⟨rfl, congrArg (fun l : List UInt8 => HB.c 44 2 [[.pt 1 0 0 1, .sl 2 0 l.length l.length]]) e7, congrArg (fun l => HB.p _ 1 (bytesD l)) e7, rfl, rfl, trivial⟩, ⟨rfl, rfl, rfl, rfl, rfl, rfl, rfl, rfl, rfl, rfl, trivial⟩, rfl⟩
      · have h2 : r = (at_ ms k).rows.toNat := by simp at h2; omega
        subst h2
        ((conv => whnf); repeat' ((first | refine W_seq ?_ | refine W_block ?_ | refine W_skip ?_ | refine W_exit ?_ | refine W_reg T ?_ | refine ld1 ?_); (conv => whnf)))
        refine ⟨by omega, ?_⟩
        ((conv => whnf); repeat' ((first | refine W_seq ?_ | refine W_block ?_ | refine W_skip ?_ | refine W_exit ?_ | refine W_reg T ?_ | refine ld1 ?_); (conv => whnf)))
        have e4 : inTx ms k (at_ ms k).rows.toNat = outTx ms (k + 1) := by rw [outTx_succ ms h1]; simp [inTx, mapTx]
        exact ⟨k + 1, h1, by omega, rfl, rfl, rfl, Nat.zero_le _, ⟨rfl, congrArg (fun l : List UInt8 => HB.c 44 2 [[.pt 1 0 0 1, .sl 2 0 l.length l.length]]) e4, congrArg (fun l => HB.p _ 1 (bytesD l)) e4, trivial⟩, ⟨rfl, rfl, rfl, rfl, rfl, rfl, trivial⟩, rfl⟩
    · have h1 : k = ms.length := by simp at h1; omega
      subst h1
      ((conv => whnf); repeat' ((first | refine W_seq ?_ | refine W_block ?_ | refine W_skip ?_ | refine W_exit ?_ | refine W_reg T ?_ | refine ld1 ?_); (conv => whnf)))
      have hne : outTx ms ms.length ≠ [] := by
        intro h
        have := congrArg List.length h
        simp [outTx] at this
      refine .inr (.inl ⟨_, rfl, call_own bsCon (outTx ms ms.length) [1, 2] 3 bs_valid ⟨hne, hL'⟩ rfl (by decide) (.of rfl) (.cons (.same _ _ rfl) .nil) rfl rfl ?_⟩)
      ((conv => whnf); repeat' ((first | refine W_seq ?_ | refine W_block ?_ | refine W_skip ?_ | refine W_exit ?_ | refine W_reg T ?_ | refine ld1 ?_); (conv => whnf)))
      refine W_ret ⟨.inr rfl, .one (.p _ _ _ (.cons (.v _ _ ?_) .nil))⟩
      rw [if_pos h]
      rfl
end Go.Proofs.YthjjbfpcclojbaaDoor.Pv
end

section
/- Copies of the arguments: rows of limbs. No condition. -/
set_option linter.unusedVariables false
set_option linter.unusedSimpArgs false
namespace Go.Proofs.YthjjbfpcclojbaaDoor.Pv
open Go.RowKit
/-- A row that is being filled. -/
def fill {α : Type} (f : α → List D) (z : List D) (l : List α) (k : Nat) : List (List D) := (l.take k).map f ++ List.replicate (l.length - k) z
theorem fill_len {α : Type} {f : α → List D} {z : List D} {l : List α} {k : Nat} (h : k ≤ l.length) : (fill f z l k).length = l.length := by
  simp [fill]
  omega
theorem fill_zero {α : Type} {f : α → List D} {z : List D} {l : List α} : fill f z l 0 = List.replicate l.length z := by simp [fill]
theorem fill_all {α : Type} {f : α → List D} {z : List D} {l : List α} : fill f z l l.length = l.map f := by simp [fill]
theorem fill_row {α : Type} {f : α → List D} {z : List D} {l : List α} {k : Nat} (h : k < l.length) : RowAt (fill f z l k) k z := ⟨fun _ => by
  unfold fill
  rw [List.getElem?_append_right (by simp; omega)]
  simp [List.getElem?_replicate]
  omega⟩
theorem fill_set {α : Type} [Inhabited α] {f : α → List D} {z : List D} {l : List α} {k : Nat} (h : k < l.length) : (fill f z l k).set k (f (l.getD k default)) = fill f z l (k + 1) := by
  unfold fill
  rw [take_snoc l h, List.map_append, List.append_assoc, List.set_append_right _ _ (by simp; omega)]
  congr 1
  simp only [List.length_map, List.length_take, Nat.min_eq_left (Nat.le_of_lt h), Nat.sub_self]
  rw [show l.length - k = (l.length - (k + 1)) + 1 by omega, List.replicate_succ]
  rfl
def limRow (x : Nat) : List D := [.v (.int .u32 (x : Int))]
def limCon : Con := ⟨List Nat, fun l => [(false, [limR l])], Lok, fun _ l => .one (.p false [limR l]), true⟩
def toLim (l : List Nat) (nx k : Nat) : St := ⟨[(0, .one (.p false [limR l])), (3, .one (.o false [.sl 0 0 l.length l.length])), (4, int .i64 k)], [.p 84 1 (fill limRow [.v (.int .u32 0)] l k)], 22, nx, 0⟩
theorem toUint32S_valid : Valid Tryd.prog 72 limCon := by
  refine valid_intro (ts := [2]) limCon Tryd.func72 rfl rfl rfl (by decide) (fun _ => Nat.le_of_ble_eq_true rfl) ?_
  rintro (l : List Nat) (hp : Lok l) nm nx
  have hl := hp.2
  have hlen : (l.map limRow).length = l.length := by simp
  ((conv => whnf); repeat' ((first | refine W_seq ?_ | refine W_block ?_ | refine W_skip ?_ | refine W_exit ?_ | refine W_reg T ?_ | refine ld1 ?_); (conv => whnf)))
  refine ⟨rfl, Int.natCast_nonneg _, by show ((l.map limRow).length : Int) * 4 ≤ _; omega, by show ((l.map limRow).length : Int) ≤ _; omega, ?_⟩
  ((conv => whnf); repeat' ((first | refine W_seq ?_ | refine W_block ?_ | refine W_skip ?_ | refine W_exit ?_ | refine W_reg T ?_ | refine ld1 ?_); (conv => whnf)))
  refine W_loop (ι := Nat) (fun k => k ≤ l.length) (toLim l nx) (fun k => l.length - k) 0 (Nat.zero_le _) ?_ ?_
  · refine ⟨rfl, rfl, rfl, Nat.zero_le _, ⟨?_, trivial⟩, ⟨rfl, ?_, rfl, trivial⟩, rfl⟩
    · show HB.p _ _ (List.replicate (Int.toNat ((l.map limRow).length : Int)) _) = _
      rw [Int.toNat_natCast, hlen, fill_zero]
      rfl
    · show X.one (.o false [.sl 0 0 (Int.toNat ((l.map limRow).length : Int)) (Int.toNat ((l.map limRow).length : Int))]) = _
      rw [Int.toNat_natCast, hlen]
  · intro k hk
    ((conv => whnf); repeat' ((first | refine W_seq ?_ | refine W_block ?_ | refine W_skip ?_ | refine W_exit ?_ | refine W_reg T ?_ | refine ld1 ?_); (conv => whnf)))
    refine W_cond rfl (fun h => ?_) (fun h => ?_)
    · have h1 : k < l.length := by simpa using h
      ((conv => whnf); repeat' ((first | refine W_seq ?_ | refine W_block ?_ | refine W_skip ?_ | refine W_exit ?_ | refine W_reg T ?_ | refine ld1 ?_); (conv => whnf)))
      refine ⟨Int.natCast_nonneg k, by show (k : Int) < (l.map limRow).length; omega, _, rowMap l limRow _, ?_⟩
      refine ⟨fill_len hk, Int.natCast_nonneg k, by show (k : Int) < _; omega, ?_⟩
      refine ⟨fill_len hk, ?_, [.v (.int .u32 0)], ?_, ?_⟩
      · show 0 + k < _
        rw [fill_len hk]
        omega
      · show RowAt _ (0 + k) _
        rw [Nat.zero_add]
        exact fill_row h1
      · ((conv => whnf); repeat' ((first | refine W_seq ?_ | refine W_block ?_ | refine W_skip ?_ | refine W_exit ?_ | refine W_reg T ?_ | refine ld1 ?_); (conv => whnf)))
        refine ⟨by omega, ?_⟩
        refine ⟨k + 1, h1, by omega, rfl, rfl, rfl, Nat.zero_le _, ⟨?_, trivial⟩, ⟨rfl, rfl, rfl, trivial⟩, rfl⟩
        show HB.p _ _ ((fill limRow _ l k).set (0 + k) (limRow (l.getD k default))) = _
        rw [Nat.zero_add, fill_set h1]
    · have h1 : k = l.length := by
        have : decide ((k : Int) < (l.map limRow).length) = false := h
        simp at this
        omega
      subst h1
      ((conv => whnf); repeat' ((first | refine W_seq ?_ | refine W_block ?_ | refine W_skip ?_ | refine W_exit ?_ | refine W_reg T ?_ | refine ld1 ?_); (conv => whnf)))
      refine W_ret ?_
      exact ⟨.inr rfl, .one (.o _ _ _ (.cons (.sl _ _ _ _ _ _ _ rfl (fill_len (Nat.le_refl _)) rfl (.inr (fun r hr x hx => by
        rw [fill_all] at hr
        obtain ⟨y, _, rfl⟩ := List.mem_map.1 hr
        simp [limRow] at hx
        exact ⟨_, hx⟩)) (by rw [fill_all]; rfl)) .nil))⟩
def ratCon : Con := ⟨RtD, fun r => [(true, rowR r)], Rok, fun _ r => .one (.p true (rowR r)), false⟩
theorem toRat_valid : Valid Tryd.prog 55 ratCon := by
  refine valid_cell T (r := 2) (t := 58) ratCon rfl Tryd.func55 rfl rfl rfl (fun _ => Nat.le_of_ble_eq_true rfl) ?_
  rintro (q : RtD) (hp : Rok q) nm nx
  ((conv => whnf); repeat' ((first | refine W_seq ?_ | refine W_block ?_ | refine W_skip ?_ | refine W_exit ?_ | refine W_reg T ?_ | refine ld1 ?_); (conv => whnf)))
  refine .inl ⟨limCon, q.2.1, toUint32S_valid, hp.1, .cons (.same _ _) .nil, ?_⟩
  ((conv => whnf); repeat' ((first | refine W_seq ?_ | refine W_block ?_ | refine W_skip ?_ | refine W_exit ?_ | refine W_reg T ?_ | refine ld1 ?_); (conv => whnf)))
  refine .inl ⟨limCon, q.2.2, toUint32S_valid, hp.2, .cons (.same _ _) .nil, ?_⟩
  ((conv => whnf); repeat' ((first | refine W_seq ?_ | refine W_block ?_ | refine W_skip ?_ | refine W_exit ?_ | refine W_reg T ?_ | refine ld1 ?_); (conv => whnf)))
  exact W_ret ⟨.inr rfl, 1, rowR q, rfl, rfl, rfl, .one (.same _ _ _ rfl rfl)⟩
end Go.Proofs.YthjjbfpcclojbaaDoor.Pv
end

section
/- Copies of the arguments: rationals, maps, nets. No condition. -/
set_option linter.unusedVariables false
set_option linter.unusedSimpArgs false
namespace Go.Proofs.YthjjbfpcclojbaaDoor.Pv
open Go.RowKit
def ratsCon : Con := ⟨List RtD, fun l => [(false, [ratsR l])], LsOk, fun _ l => .one (.p false [ratsR l]), false⟩
def toRats (l : List RtD) (nx k : Nat) : St := ⟨[(0, .one (.p false [ratsR l])), (3, .one (.o false [.sl 0 0 l.length l.length])), (4, int .i64 k)], [.p 58 3 (fill rowR [.v (.bool false), .v (.slice none 0 0), .v (.slice none 0 0)] l k)], 23, nx, 0⟩
theorem toRatS_valid : Valid Tryd.prog 43 ratsCon := by
  refine valid_intro (ts := [2]) ratsCon Tryd.func43 rfl rfl rfl (by decide) (fun _ => Nat.le_of_ble_eq_true rfl) ?_
  rintro (l : List RtD) (hp : LsOk l) nm nx
  have hl := hp.1
  have hlen : (l.map rowR).length = l.length := by simp
  ((conv => whnf); repeat' ((first | refine W_seq ?_ | refine W_block ?_ | refine W_skip ?_ | refine W_exit ?_ | refine W_reg T ?_ | refine ld1 ?_); (conv => whnf)))
  refine ⟨rfl, Int.natCast_nonneg _, by show ((l.map rowR).length : Int) * 56 ≤ _; omega, by show ((l.map rowR).length : Int) ≤ _; omega, ?_⟩
  ((conv => whnf); repeat' ((first | refine W_seq ?_ | refine W_block ?_ | refine W_skip ?_ | refine W_exit ?_ | refine W_reg T ?_ | refine ld1 ?_); (conv => whnf)))
  refine W_loop (ι := Nat) (fun k => k ≤ l.length) (toRats l nx) (fun k => l.length - k) 0 (Nat.zero_le _) ?_ ?_
  · refine ⟨rfl, rfl, rfl, Nat.zero_le _, ⟨?_, trivial⟩, ⟨rfl, ?_, rfl, trivial⟩, rfl⟩
    · show HB.p _ _ (List.replicate (Int.toNat ((l.map rowR).length : Int)) _) = _
      rw [Int.toNat_natCast, hlen, fill_zero]
      rfl
    · show X.one (.o false [.sl 0 0 (Int.toNat ((l.map rowR).length : Int)) (Int.toNat ((l.map rowR).length : Int))]) = _
      rw [Int.toNat_natCast, hlen]
  · intro k hk
    ((conv => whnf); repeat' ((first | refine W_seq ?_ | refine W_block ?_ | refine W_skip ?_ | refine W_exit ?_ | refine W_reg T ?_ | refine ld1 ?_); (conv => whnf)))
    refine W_cond rfl (fun h => ?_) (fun h => ?_)
    · have h1 : k < l.length := by
        have : decide ((k : Int) < (l.map rowR).length) = true := h
        simpa using this
      have hm : l.getD k default ∈ l := by simp [h1]
      ((conv => whnf); repeat' ((first | refine W_seq ?_ | refine W_block ?_ | refine W_skip ?_ | refine W_exit ?_ | refine W_reg T ?_ | refine ld1 ?_); (conv => whnf)))
      refine ⟨Int.natCast_nonneg k, by show (k : Int) < (l.map rowR).length; omega, _, rowMap l rowR _, ?_⟩
      refine .inl ⟨ratCon, l.getD k default, toRat_valid, hp.2 _ hm, .cons (.same _ _) .nil, ?_⟩
      refine ⟨fill_len hk, Int.natCast_nonneg k, by show (k : Int) < _; omega, ?_⟩
      refine ⟨fill_len hk, ?_, [.v (.bool false), .v (.slice none 0 0), .v (.slice none 0 0)], ?_, ?_⟩
      · show 0 + k < _
        rw [fill_len hk]
        omega
      · show RowAt _ (0 + k) _
        rw [Nat.zero_add]
        exact fill_row h1
      · ((conv => whnf); repeat' ((first | refine W_seq ?_ | refine W_block ?_ | refine W_skip ?_ | refine W_exit ?_ | refine W_reg T ?_ | refine ld1 ?_); (conv => whnf)))
        refine ⟨by omega, ?_⟩
        refine ⟨k + 1, h1, by omega, rfl, rfl, rfl, Nat.zero_le _, ⟨?_, trivial⟩, ⟨rfl, rfl, rfl, trivial⟩, rfl⟩
        show HB.p _ _ ((fill rowR _ l k).set (0 + k) (rowR (l.getD k default))) = _
        rw [Nat.zero_add, fill_set h1]
    · have h1 : k = l.length := by
        have : decide ((k : Int) < (l.map rowR).length) = false := h
        simp at this
        omega
      subst h1
      ((conv => whnf); repeat' ((first | refine W_seq ?_ | refine W_block ?_ | refine W_skip ?_ | refine W_exit ?_ | refine W_reg T ?_ | refine ld1 ?_); (conv => whnf)))
      refine W_ret ?_
      exact ⟨.inr rfl, .one (.o _ _ _ (.cons (.sl _ _ _ _ _ _ _ rfl (fill_len (Nat.le_refl _)) rfl (.inl rfl) (by rw [fill_all])) .nil))⟩
def affCon : Con := ⟨Aff, fun m => [(true, rowA m)], fun m => LsOk m.W ∧ LsOk m.B, fun _ m => .one (.p true (rowA m)), false⟩
theorem toAffine_valid : Valid Tryd.prog 31 affCon := by
  refine valid_cell T (r := 2) (t := 39) affCon rfl Tryd.func31 rfl rfl rfl (fun _ => Nat.le_of_ble_eq_true rfl) ?_
  rintro (m : Aff) (hp : LsOk m.W ∧ LsOk m.B) nm nx
  ((conv => whnf); repeat' ((first | refine W_seq ?_ | refine W_block ?_ | refine W_skip ?_ | refine W_exit ?_ | refine W_reg T ?_ | refine ld1 ?_); (conv => whnf)))
  refine .inl ⟨ratsCon, m.W, toRatS_valid, hp.1, .cons (.same _ _) .nil, ?_⟩
  ((conv => whnf); repeat' ((first | refine W_seq ?_ | refine W_block ?_ | refine W_skip ?_ | refine W_exit ?_ | refine W_reg T ?_ | refine ld1 ?_); (conv => whnf)))
  refine .inl ⟨ratsCon, m.B, toRatS_valid, hp.2, .cons (.same _ _) .nil, ?_⟩
  ((conv => whnf); repeat' ((first | refine W_seq ?_ | refine W_block ?_ | refine W_skip ?_ | refine W_exit ?_ | refine W_reg T ?_ | refine ld1 ?_); (conv => whnf)))
  exact W_ret ⟨.inr rfl, 1, rowA m, rfl, rfl, rfl, .one (.same _ _ _ rfl rfl)⟩
def affsCon : Con := ⟨List Aff, fun l => [(false, [netD l])], MsOk, fun _ l => .one (.p false [netD l]), false⟩
def toAffs (l : List Aff) (nx k : Nat) : St := ⟨[(0, .one (.p false [netD l])), (3, .one (.o false [.sl 0 0 l.length l.length])), (4, int .i64 k)], [.p 39 4 (fill rowA [.v (.int .i64 0), .v (.int .i64 0), .v (.slice none 0 0), .v (.slice none 0 0)] l k)], 23, nx, 0⟩
theorem toAffineS_valid : Valid Tryd.prog 13 affsCon := by
  refine valid_intro (ts := [2]) affsCon Tryd.func13 rfl rfl rfl (by decide) (fun _ => Nat.le_of_ble_eq_true rfl) ?_
  rintro (l : List Aff) (hp : MsOk l) nm nx
  have hl := hp.1
  have hlen : (l.map rowA).length = l.length := by simp
  ((conv => whnf); repeat' ((first | refine W_seq ?_ | refine W_block ?_ | refine W_skip ?_ | refine W_exit ?_ | refine W_reg T ?_ | refine ld1 ?_); (conv => whnf)))
  refine ⟨rfl, Int.natCast_nonneg _, by show ((l.map rowA).length : Int) * 64 ≤ _; omega, by show ((l.map rowA).length : Int) ≤ _; omega, ?_⟩
  ((conv => whnf); repeat' ((first | refine W_seq ?_ | refine W_block ?_ | refine W_skip ?_ | refine W_exit ?_ | refine W_reg T ?_ | refine ld1 ?_); (conv => whnf)))
  refine W_loop (ι := Nat) (fun k => k ≤ l.length) (toAffs l nx) (fun k => l.length - k) 0 (Nat.zero_le _) ?_ ?_
  · refine ⟨rfl, rfl, rfl, Nat.zero_le _, ⟨?_, trivial⟩, ⟨rfl, ?_, rfl, trivial⟩, rfl⟩
    · show HB.p _ _ (List.replicate (Int.toNat ((l.map rowA).length : Int)) _) = _
      rw [Int.toNat_natCast, hlen, fill_zero]
      rfl
    · show X.one (.o false [.sl 0 0 (Int.toNat ((l.map rowA).length : Int)) (Int.toNat ((l.map rowA).length : Int))]) = _
      rw [Int.toNat_natCast, hlen]
  · intro k hk
    ((conv => whnf); repeat' ((first | refine W_seq ?_ | refine W_block ?_ | refine W_skip ?_ | refine W_exit ?_ | refine W_reg T ?_ | refine ld1 ?_); (conv => whnf)))
    refine W_cond rfl (fun h => ?_) (fun h => ?_)
    · have h1 : k < l.length := by
        have : decide ((k : Int) < (l.map rowA).length) = true := h
        simpa using this
      have hm : l.getD k default ∈ l := by simp [h1]
      ((conv => whnf); repeat' ((first | refine W_seq ?_ | refine W_block ?_ | refine W_skip ?_ | refine W_exit ?_ | refine W_reg T ?_ | refine ld1 ?_); (conv => whnf)))
      refine ⟨Int.natCast_nonneg k, by show (k : Int) < (l.map rowA).length; omega, _, rowMap l rowA _, ?_⟩
      refine .inl ⟨affCon, l.getD k default, toAffine_valid, hp.2 _ hm, .cons (.same _ _) .nil, ?_⟩
      refine ⟨fill_len hk, Int.natCast_nonneg k, by show (k : Int) < _; omega, ?_⟩
      refine ⟨fill_len hk, ?_, [.v (.int .i64 0), .v (.int .i64 0), .v (.slice none 0 0), .v (.slice none 0 0)], ?_, ?_⟩
      · show 0 + k < _
        rw [fill_len hk]
        omega
      · show RowAt _ (0 + k) _
        rw [Nat.zero_add]
        exact fill_row h1
      · ((conv => whnf); repeat' ((first | refine W_seq ?_ | refine W_block ?_ | refine W_skip ?_ | refine W_exit ?_ | refine W_reg T ?_ | refine ld1 ?_); (conv => whnf)))
        refine ⟨by omega, ?_⟩
        refine ⟨k + 1, h1, by omega, rfl, rfl, rfl, Nat.zero_le _, ⟨?_, trivial⟩, ⟨rfl, rfl, rfl, trivial⟩, rfl⟩
        show HB.p _ _ ((fill rowA _ l k).set (0 + k) (rowA (l.getD k default))) = _
        rw [Nat.zero_add, fill_set h1]
    · have h1 : k = l.length := by
        have : decide ((k : Int) < (l.map rowA).length) = false := h
        simp at this
        omega
      subst h1
      ((conv => whnf); repeat' ((first | refine W_seq ?_ | refine W_block ?_ | refine W_skip ?_ | refine W_exit ?_ | refine W_reg T ?_ | refine ld1 ?_); (conv => whnf)))
      refine W_ret ?_
      exact ⟨.inr rfl, .one (.o _ _ _ (.cons (.sl _ _ _ _ _ _ _ rfl (fill_len (Nat.le_refl _)) rfl (.inl rfl) (by rw [fill_all])) .nil))⟩
def netsCon : Con := ⟨List Aff, fun ms => [(true, [netD ms])], MsOk, fun _ ms => .one (.p true [netD ms]), false⟩
theorem toNet_valid : Valid Tryd.prog 6 netsCon := by
  refine valid_cell T (r := 2) (t := 29) netsCon rfl Tryd.func6 rfl rfl rfl (fun _ => Nat.le_of_ble_eq_true rfl) ?_
  rintro (ms : List Aff) (hp : MsOk ms) nm nx
  ((conv => whnf); repeat' ((first | refine W_seq ?_ | refine W_block ?_ | refine W_skip ?_ | refine W_exit ?_ | refine W_reg T ?_ | refine ld1 ?_); (conv => whnf)))
  refine .inl ⟨affsCon, ms, toAffineS_valid, hp, .cons (.same _ _) .nil, ?_⟩
  ((conv => whnf); repeat' ((first | refine W_seq ?_ | refine W_block ?_ | refine W_skip ?_ | refine W_exit ?_ | refine W_reg T ?_ | refine ld1 ?_); (conv => whnf)))
  exact W_ret ⟨.inr rfl, 1, [netD ms], rfl, rfl, rfl, .one (.same _ _ _ rfl rfl)⟩
end Go.Proofs.YthjjbfpcclojbaaDoor.Pv
end

section
/- The sizes of the arguments. No condition. -/
set_option linter.unusedVariables false
set_option linter.unusedSimpArgs false
namespace Go.Proofs.YthjjbfpcclojbaaDoor.Pv
open Go.RowKit
def szN (n : Nat) (left : Int) : Int := if left - n < 0 then -1 else left - n
def LeftOk (left : Int) : Prop := 0 ≤ left ∧ left ≤ 1048576
def Short (l : List Nat) : Prop := l.length ≤ 9223372036854775807
def szLCon : Con := ⟨List Nat × Int, fun g => [(false, [limR g.1]), (false, [.v (.int .i64 g.2)])], fun g => Short g.1 ∧ LeftOk g.2, fun _ g => int .i64 (szN g.1.length g.2), true⟩
theorem szUint32S_valid : Valid Tryd.prog 65 szLCon := by
  refine valid_intro (ts := [4]) szLCon Tryd.func65 rfl rfl rfl (by decide) (fun _ => Nat.le_of_ble_eq_true rfl) ?_
  rintro ⟨l, left⟩ ⟨(h1 : l.length ≤ 9223372036854775807), (h2 : 0 ≤ left ∧ left ≤ 1048576)⟩ nm nx
  have hlen : (l.map limRow).length = l.length := by simp
  ((conv => whnf); repeat' ((first | refine W_seq ?_ | refine W_block ?_ | refine W_skip ?_ | refine W_exit ?_ | refine W_reg T ?_ | refine ld1 ?_); (conv => whnf)))
  refine ⟨by show _ ≤ left - ((l.map limRow).length : Int) ∧ left - ((l.map limRow).length : Int) ≤ _; omega, ?_⟩
  ((conv => whnf); repeat' ((first | refine W_seq ?_ | refine W_block ?_ | refine W_skip ?_ | refine W_exit ?_ | refine W_reg T ?_ | refine ld1 ?_); (conv => whnf)))
  have e : (if left - (l.length : Int) < 0 then -1 else left - (l.length : Int)) = szN l.length left := rfl
  refine W_cond rfl (fun h => ?_) (fun h => ?_)
  · have h : decide (left - ((l.map limRow).length : Int) < 0) = true := h
    rw [hlen] at h
    rw [if_pos (of_decide_eq_true h)] at e
    ((conv => whnf); repeat' ((first | refine W_seq ?_ | refine W_block ?_ | refine W_skip ?_ | refine W_exit ?_ | refine W_reg T ?_ | refine ld1 ?_); (conv => whnf)))
    exact W_ret ⟨.inr rfl, .one (.p _ _ _ (.cons (.v _ _ (congrArg (Value.int .i64) e)) .nil))⟩
  · have h : decide (left - ((l.map limRow).length : Int) < 0) = false := h
    rw [hlen] at h
    rw [if_neg (of_decide_eq_false h)] at e
    ((conv => whnf); repeat' ((first | refine W_seq ?_ | refine W_block ?_ | refine W_skip ?_ | refine W_exit ?_ | refine W_reg T ?_ | refine ld1 ?_); (conv => whnf)))
    refine W_ret ⟨.inr rfl, .one (.p _ _ _ (.cons (.v _ _ ?_) .nil))⟩
    show Value.int .i64 (left - ((l.map limRow).length : Int)) = _
    rw [hlen]
    exact congrArg (Value.int .i64) e
end Go.Proofs.YthjjbfpcclojbaaDoor.Pv
end

section
/- The sizes of rationals, of maps, of nets. No condition. -/
set_option linter.unusedVariables false
set_option linter.unusedSimpArgs false
namespace Go.Proofs.YthjjbfpcclojbaaDoor.Pv
open Go.RowKit
def SzOk (n : Int) : Prop := -1 ≤ n ∧ n ≤ 1048576
theorem szN_ok {n : Nat} {left : Int} (h : LeftOk left) : SzOk (szN n left) := by
  unfold szN SzOk
  have := h.1
  have := h.2
  split <;> omega
def thenSz (a : Int) (f : Int → Int) : Int := if a < 0 then -1 else f a
theorem thenSz_ok {a : Int} {f : Int → Int} (ha : SzOk a) (hf : ∀ x, LeftOk x → SzOk (f x)) : SzOk (thenSz a f) := by
  unfold thenSz
  split
  · exact ⟨by omega, by omega⟩
  · exact hf a ⟨by omega, ha.2⟩
def szS {α : Type} (f : α → Int → Int) : List α → Int → Int
  | [], left => left
  | x :: r, left => thenSz (f x left) (szS f r)
theorem szS_ok {α : Type} {f : α → Int → Int} (hf : ∀ x a, LeftOk a → SzOk (f x a)) : ∀ (l : List α) (a : Int), LeftOk a → SzOk (szS f l a)
  | [], a, h => ⟨by have := h.1; show -1 ≤ a; omega, h.2⟩
  | x :: r, a, h => thenSz_ok (hf x a h) (szS_ok hf r)
theorem szS_drop {α : Type} [Inhabited α] {f : α → Int → Int} {l : List α} {k : Nat} (h : k < l.length) (a : Int) : szS f (l.drop k) a = thenSz (f (l.getD k default) a) (szS f (l.drop (k + 1))) := by
  rw [List.drop_eq_getElem_cons h, szS]
  simp [h]
def szR (r : RtD) (left : Int) : Int := thenSz (szN r.2.1.length left) (szN r.2.2.length)
theorem szR_ok (r : RtD) (a : Int) (h : LeftOk a) : SzOk (szR r a) := thenSz_ok (szN_ok h) fun x hx => szN_ok hx
def szRs (l : List RtD) (left : Int) : Int := thenSz (szN l.length left) (szS szR l)
theorem szRs_ok (l : List RtD) (a : Int) (h : LeftOk a) : SzOk (szRs l a) := thenSz_ok (szN_ok h) fun x hx => szS_ok szR_ok l x hx
def szA (m : Aff) (left : Int) : Int := thenSz (szRs m.W left) (szRs m.B)
theorem szA_ok (m : Aff) (a : Int) (h : LeftOk a) : SzOk (szA m a) := thenSz_ok (szRs_ok _ _ h) fun x hx => szRs_ok _ x hx
def szAs (l : List Aff) (left : Int) : Int := thenSz (szN l.length left) (szS szA l)
theorem szAs_ok (l : List Aff) (a : Int) (h : LeftOk a) : SzOk (szAs l a) := thenSz_ok (szN_ok h) fun x hx => szS_ok szA_ok l x hx
def ShR (r : RtD) : Prop := Short r.2.1 ∧ Short r.2.2
def ShRs (l : List RtD) : Prop := l.length ≤ 9223372036854775807 ∧ ∀ r ∈ l, ShR r
def ShA (m : Aff) : Prop := ShRs m.W ∧ ShRs m.B
def ShAs (l : List Aff) : Prop := l.length ≤ 9223372036854775807 ∧ ∀ r ∈ l, ShA r
def szCon {α : Type} (d : α → Bool × List D) (Sh : α → Prop) (f : α → Int → Int) : Con := ⟨α × Int, fun g => [d g.1, (false, [.v (.int .i64 g.2)])], fun g => Sh g.1 ∧ LeftOk g.2, fun _ g => int .i64 (f g.1 g.2), true⟩
theorem vI {a b : Int} (h : a = b) : Value.int .i64 a = Value.int .i64 b := by rw [h]
theorem szRat_valid : Valid Tryd.prog 52 (szCon (fun x : RtD => (true, rowR x)) ShR szR) := by
  refine valid_intro (ts := [4]) (szCon (fun x : RtD => (true, rowR x)) ShR szR) Tryd.func52 rfl rfl rfl (by decide) (fun _ => Nat.le_of_ble_eq_true rfl) ?_
  rintro ⟨q, left⟩ ⟨(hs : ShR q), (hl : LeftOk left)⟩ nm nx
  have e : szR q left = thenSz (szN q.2.1.length left) (szN q.2.2.length) := rfl
  have o1 : SzOk (szN q.2.1.length left) := szN_ok hl
  ((conv => whnf); repeat' ((first | refine W_seq ?_ | refine W_block ?_ | refine W_skip ?_ | refine W_exit ?_ | refine W_reg T ?_ | refine ld1 ?_); (conv => whnf)))
  refine .inl ⟨szLCon, (q.2.1, left), szUint32S_valid, ⟨hs.1, hl⟩, .cons (.same _ _) (.cons (.same _ _) .nil), ?_⟩
  ((conv => whnf); repeat' ((first | refine W_seq ?_ | refine W_block ?_ | refine W_skip ?_ | refine W_exit ?_ | refine W_reg T ?_ | refine ld1 ?_); (conv => whnf)))
  refine W_cond rfl (fun h => ?_) (fun h => ?_)
  · have h : decide (szN q.2.1.length left < 0) = true := h
    ((conv => whnf); repeat' ((first | refine W_seq ?_ | refine W_block ?_ | refine W_skip ?_ | refine W_exit ?_ | refine W_reg T ?_ | refine ld1 ?_); (conv => whnf)))
    refine W_ret ⟨.inr rfl, .one (.p _ _ _ (.cons (.v _ _ (vI ?_)) .nil))⟩
    show -1 = szR q left
    rw [e, thenSz, if_pos (of_decide_eq_true h)]
  · have h : decide (szN q.2.1.length left < 0) = false := h
    have h := of_decide_eq_false h
    rw [thenSz, if_neg h] at e
    ((conv => whnf); repeat' ((first | refine W_seq ?_ | refine W_block ?_ | refine W_skip ?_ | refine W_exit ?_ | refine W_reg T ?_ | refine ld1 ?_); (conv => whnf)))
    refine .inl ⟨szLCon, (q.2.2, szN q.2.1.length left), szUint32S_valid, ⟨hs.2, ⟨by omega, o1.2⟩⟩, .cons (.same _ _) (.cons (.same _ _) .nil), ?_⟩
    ((conv => whnf); repeat' ((first | refine W_seq ?_ | refine W_block ?_ | refine W_skip ?_ | refine W_exit ?_ | refine W_reg T ?_ | refine ld1 ?_); (conv => whnf)))
    refine W_cond rfl (fun h2 => ?_) (fun h2 => ?_)
    · have h2 : decide (szN q.2.2.length (szN q.2.1.length left) < 0) = true := h2
      have h2 := of_decide_eq_true h2
      have o2 : SzOk (szN q.2.2.length (szN q.2.1.length left)) := szN_ok ⟨by omega, o1.2⟩
      have := o2.1
      ((conv => whnf); repeat' ((first | refine W_seq ?_ | refine W_block ?_ | refine W_skip ?_ | refine W_exit ?_ | refine W_reg T ?_ | refine ld1 ?_); (conv => whnf)))
      refine W_ret ⟨.inr rfl, .one (.p _ _ _ (.cons (.v _ _ (vI ?_)) .nil))⟩
      show -1 = szR q left
      rw [e]
      omega
    · ((conv => whnf); repeat' ((first | refine W_seq ?_ | refine W_block ?_ | refine W_skip ?_ | refine W_exit ?_ | refine W_reg T ?_ | refine ld1 ?_); (conv => whnf)))
      exact W_ret ⟨.inr rfl, .one (.p _ _ _ (.cons (.v _ _ (vI e.symm)) .nil))⟩
theorem szRatS_valid : Valid Tryd.prog 40 (szCon (fun l : List RtD => (false, [ratsR l])) ShRs szRs) := by
  refine valid_intro (ts := [4]) (szCon (fun l : List RtD => (false, [ratsR l])) ShRs szRs) Tryd.func40 rfl rfl rfl (by decide) (fun _ => Nat.le_of_ble_eq_true rfl) ?_
  rintro ⟨l, left⟩ ⟨(hs : ShRs l), (hl : LeftOk left)⟩ nm nx
  have hlen : (l.map rowR).length = l.length := by simp
  have hs1 := hs.1
  have hl1 := hl.1
  have hl2 := hl.2
  have e : szRs l left = thenSz (szN l.length left) (szS szR l) := rfl
  ((conv => whnf); repeat' ((first | refine W_seq ?_ | refine W_block ?_ | refine W_skip ?_ | refine W_exit ?_ | refine W_reg T ?_ | refine ld1 ?_); (conv => whnf)))
  refine ⟨by show _ ≤ left - ((l.map rowR).length : Int) ∧ left - ((l.map rowR).length : Int) ≤ _; omega, ?_⟩
  ((conv => whnf); repeat' ((first | refine W_seq ?_ | refine W_block ?_ | refine W_skip ?_ | refine W_exit ?_ | refine W_reg T ?_ | refine ld1 ?_); (conv => whnf)))
  refine W_cond rfl (fun h => ?_) (fun h => ?_)
  · have h : decide (left - ((l.map rowR).length : Int) < 0) = true := h
    rw [hlen] at h
    have h := of_decide_eq_true h
    ((conv => whnf); repeat' ((first | refine W_seq ?_ | refine W_block ?_ | refine W_skip ?_ | refine W_exit ?_ | refine W_reg T ?_ | refine ld1 ?_); (conv => whnf)))
    refine W_ret ⟨.inr rfl, .one (.p _ _ _ (.cons (.v _ _ (vI ?_)) .nil))⟩
    show -1 = szRs l left
    rw [e, szN, if_pos h]
    rfl
  · have h : decide (left - ((l.map rowR).length : Int) < 0) = false := h
    rw [hlen] at h
    have h := of_decide_eq_false h
    rw [szN, if_neg h, thenSz, if_neg h] at e
    ((conv => whnf); repeat' ((first | refine W_seq ?_ | refine W_block ?_ | refine W_skip ?_ | refine W_exit ?_ | refine W_reg T ?_ | refine ld1 ?_); (conv => whnf)))
    refine W_loop (ι := Nat × Int) (fun i => i.1 ≤ l.length ∧ LeftOk i.2 ∧ szRs l left = szS szR (l.drop i.1) i.2) (fun i => ⟨[(0, .one (.p false [ratsR l])), (1, int .i64 i.2), (5, int .i64 i.1)], [], 27, nx, 0⟩) (fun i => l.length - i.1) (0, left - l.length) ⟨Nat.zero_le _, ⟨by show 0 ≤ left - (l.length : Int); omega, by show left - (l.length : Int) ≤ 1048576; omega⟩, e⟩ ?_ ?_
    · refine ⟨rfl, rfl, rfl, Nat.zero_le _, trivial, ⟨rfl, ?_, rfl, trivial⟩, rfl⟩
      show int .i64 (left - ((l.map rowR).length : Int)) = _
      rw [hlen]
    · rintro ⟨k, a⟩ ⟨(hk : k ≤ l.length), (ha : LeftOk a), (he : szRs l left = szS szR (l.drop k) a)⟩
      ((conv => whnf); repeat' ((first | refine W_seq ?_ | refine W_block ?_ | refine W_skip ?_ | refine W_exit ?_ | refine W_reg T ?_ | refine ld1 ?_); (conv => whnf)))
      refine W_cond rfl (fun h => ?_) (fun h => ?_)
      · have h1 : k < l.length := by
          have : decide ((k : Int) < (l.map rowR).length) = true := h
          simpa using this
        have m1 : l.getD k default ∈ l := by simp [h1]
        have hkm : (k : Int) < 1048577 := by omega
        have o1 := szR_ok (l.getD k default) a ha
        rw [szS_drop h1] at he
        ((conv => whnf); repeat' ((first | refine W_seq ?_ | refine W_block ?_ | refine W_skip ?_ | refine W_exit ?_ | refine W_reg T ?_ | refine ld1 ?_); (conv => whnf)))
        refine ⟨Int.natCast_nonneg k, by show (k : Int) < (l.map rowR).length; omega, _, rowMap l rowR _, ?_⟩
        refine .inl ⟨szCon (fun x : RtD => (true, rowR x)) ShR szR, (l.getD k default, a), szRat_valid, ⟨hs.2 _ m1, ha⟩, .cons (.same _ _) (.cons (.same _ _) .nil), ?_⟩
        ((conv => whnf); repeat' ((first | refine W_seq ?_ | refine W_block ?_ | refine W_skip ?_ | refine W_exit ?_ | refine W_reg T ?_ | refine ld1 ?_); (conv => whnf)))
        refine W_cond rfl (fun h3 => ?_) (fun h3 => ?_)
        · have h3 : decide (szR (l.getD k default) a < 0) = true := h3
          ((conv => whnf); repeat' ((first | refine W_seq ?_ | refine W_block ?_ | refine W_skip ?_ | refine W_exit ?_ | refine W_reg T ?_ | refine ld1 ?_); (conv => whnf)))
          refine W_ret ⟨.inr rfl, .one (.p _ _ _ (.cons (.v _ _ (vI ?_)) .nil))⟩
          show -1 = szRs l left
          rw [he, thenSz, if_pos (of_decide_eq_true h3)]
        · have h3 : decide (szR (l.getD k default) a < 0) = false := h3
          have h3 := of_decide_eq_false h3
          rw [thenSz, if_neg h3] at he
          ((conv => whnf); repeat' ((first | refine W_seq ?_ | refine W_block ?_ | refine W_skip ?_ | refine W_exit ?_ | refine W_reg T ?_ | refine ld1 ?_); (conv => whnf)))
          refine ⟨by omega, ?_⟩
          exact ⟨(k + 1, szR (l.getD k default) a), ⟨h1, ⟨by omega, o1.2⟩, he⟩, by show l.length - (k + 1) < l.length - k; omega, by (refine St.le_mk ?_ ?_ ?_ ?_ ?_ ?_ ?_ <;> kernel_rfl)⟩
      · have h1 : k = l.length := by
          have : decide ((k : Int) < (l.map rowR).length) = false := h
          simp at this
          omega
        subst h1
        rw [List.drop_length, szS] at he
        ((conv => whnf); repeat' ((first | refine W_seq ?_ | refine W_block ?_ | refine W_skip ?_ | refine W_exit ?_ | refine W_reg T ?_ | refine ld1 ?_); (conv => whnf)))
        exact W_ret ⟨.inr rfl, .one (.p _ _ _ (.cons (.v _ _ (vI he.symm)) .nil))⟩
theorem szAffine_valid : Valid Tryd.prog 24 (szCon (fun x : Aff => (true, rowA x)) ShA szA) := by
  refine valid_intro (ts := [4]) (szCon (fun x : Aff => (true, rowA x)) ShA szA) Tryd.func24 rfl rfl rfl (by decide) (fun _ => Nat.le_of_ble_eq_true rfl) ?_
  rintro ⟨q, left⟩ ⟨(hs : ShA q), (hl : LeftOk left)⟩ nm nx
  have e : szA q left = thenSz (szRs q.W left) (szRs q.B) := rfl
  have o1 : SzOk (szRs q.W left) := szRs_ok _ _ hl
  ((conv => whnf); repeat' ((first | refine W_seq ?_ | refine W_block ?_ | refine W_skip ?_ | refine W_exit ?_ | refine W_reg T ?_ | refine ld1 ?_); (conv => whnf)))
  refine .inl ⟨szCon (fun l : List RtD => (false, [ratsR l])) ShRs szRs, (q.W, left), szRatS_valid, ⟨hs.1, hl⟩, .cons (.same _ _) (.cons (.same _ _) .nil), ?_⟩
  ((conv => whnf); repeat' ((first | refine W_seq ?_ | refine W_block ?_ | refine W_skip ?_ | refine W_exit ?_ | refine W_reg T ?_ | refine ld1 ?_); (conv => whnf)))
  refine W_cond rfl (fun h => ?_) (fun h => ?_)
  · have h : decide (szRs q.W left < 0) = true := h
    ((conv => whnf); repeat' ((first | refine W_seq ?_ | refine W_block ?_ | refine W_skip ?_ | refine W_exit ?_ | refine W_reg T ?_ | refine ld1 ?_); (conv => whnf)))
    refine W_ret ⟨.inr rfl, .one (.p _ _ _ (.cons (.v _ _ (vI ?_)) .nil))⟩
    show -1 = szA q left
    rw [e, thenSz, if_pos (of_decide_eq_true h)]
  · have h : decide (szRs q.W left < 0) = false := h
    have h := of_decide_eq_false h
    rw [thenSz, if_neg h] at e
    ((conv => whnf); repeat' ((first | refine W_seq ?_ | refine W_block ?_ | refine W_skip ?_ | refine W_exit ?_ | refine W_reg T ?_ | refine ld1 ?_); (conv => whnf)))
    refine .inl ⟨szCon (fun l : List RtD => (false, [ratsR l])) ShRs szRs, (q.B, szRs q.W left), szRatS_valid, ⟨hs.2, ⟨by omega, o1.2⟩⟩, .cons (.same _ _) (.cons (.same _ _) .nil), ?_⟩
    ((conv => whnf); repeat' ((first | refine W_seq ?_ | refine W_block ?_ | refine W_skip ?_ | refine W_exit ?_ | refine W_reg T ?_ | refine ld1 ?_); (conv => whnf)))
    refine W_cond rfl (fun h2 => ?_) (fun h2 => ?_)
    · have h2 : decide (szRs q.B (szRs q.W left) < 0) = true := h2
      have h2 := of_decide_eq_true h2
      have o2 : SzOk (szRs q.B (szRs q.W left)) := szRs_ok _ _ ⟨by omega, o1.2⟩
      have := o2.1
      ((conv => whnf); repeat' ((first | refine W_seq ?_ | refine W_block ?_ | refine W_skip ?_ | refine W_exit ?_ | refine W_reg T ?_ | refine ld1 ?_); (conv => whnf)))
      refine W_ret ⟨.inr rfl, .one (.p _ _ _ (.cons (.v _ _ (vI ?_)) .nil))⟩
      show -1 = szA q left
      rw [e]
      omega
    · ((conv => whnf); repeat' ((first | refine W_seq ?_ | refine W_block ?_ | refine W_skip ?_ | refine W_exit ?_ | refine W_reg T ?_ | refine ld1 ?_); (conv => whnf)))
      exact W_ret ⟨.inr rfl, .one (.p _ _ _ (.cons (.v _ _ (vI e.symm)) .nil))⟩
theorem szAffineS_valid : Valid Tryd.prog 9 (szCon (fun l : List Aff => (false, [netD l])) ShAs szAs) := by
  refine valid_intro (ts := [4]) (szCon (fun l : List Aff => (false, [netD l])) ShAs szAs) Tryd.func9 rfl rfl rfl (by decide) (fun _ => Nat.le_of_ble_eq_true rfl) ?_
  rintro ⟨l, left⟩ ⟨(hs : ShAs l), (hl : LeftOk left)⟩ nm nx
  have hlen : (l.map rowA).length = l.length := by simp
  have hs1 := hs.1
  have hl1 := hl.1
  have hl2 := hl.2
  have e : szAs l left = thenSz (szN l.length left) (szS szA l) := rfl
  ((conv => whnf); repeat' ((first | refine W_seq ?_ | refine W_block ?_ | refine W_skip ?_ | refine W_exit ?_ | refine W_reg T ?_ | refine ld1 ?_); (conv => whnf)))
  refine ⟨by show _ ≤ left - ((l.map rowA).length : Int) ∧ left - ((l.map rowA).length : Int) ≤ _; omega, ?_⟩
  ((conv => whnf); repeat' ((first | refine W_seq ?_ | refine W_block ?_ | refine W_skip ?_ | refine W_exit ?_ | refine W_reg T ?_ | refine ld1 ?_); (conv => whnf)))
  refine W_cond rfl (fun h => ?_) (fun h => ?_)
  · have h : decide (left - ((l.map rowA).length : Int) < 0) = true := h
    rw [hlen] at h
    have h := of_decide_eq_true h
    ((conv => whnf); repeat' ((first | refine W_seq ?_ | refine W_block ?_ | refine W_skip ?_ | refine W_exit ?_ | refine W_reg T ?_ | refine ld1 ?_); (conv => whnf)))
    refine W_ret ⟨.inr rfl, .one (.p _ _ _ (.cons (.v _ _ (vI ?_)) .nil))⟩
    show -1 = szAs l left
    rw [e, szN, if_pos h]
    rfl
  · have h : decide (left - ((l.map rowA).length : Int) < 0) = false := h
    rw [hlen] at h
    have h := of_decide_eq_false h
    rw [szN, if_neg h, thenSz, if_neg h] at e
    ((conv => whnf); repeat' ((first | refine W_seq ?_ | refine W_block ?_ | refine W_skip ?_ | refine W_exit ?_ | refine W_reg T ?_ | refine ld1 ?_); (conv => whnf)))
    refine W_loop (ι := Nat × Int) (fun i => i.1 ≤ l.length ∧ LeftOk i.2 ∧ szAs l left = szS szA (l.drop i.1) i.2) (fun i => ⟨[(0, .one (.p false [netD l])), (1, int .i64 i.2), (5, int .i64 i.1)], [], 27, nx, 0⟩) (fun i => l.length - i.1) (0, left - l.length) ⟨Nat.zero_le _, ⟨by show 0 ≤ left - (l.length : Int); omega, by show left - (l.length : Int) ≤ 1048576; omega⟩, e⟩ ?_ ?_
    · refine ⟨rfl, rfl, rfl, Nat.zero_le _, trivial, ⟨rfl, ?_, rfl, trivial⟩, rfl⟩
      show int .i64 (left - ((l.map rowA).length : Int)) = _
      rw [hlen]
    · rintro ⟨k, a⟩ ⟨(hk : k ≤ l.length), (ha : LeftOk a), (he : szAs l left = szS szA (l.drop k) a)⟩
      ((conv => whnf); repeat' ((first | refine W_seq ?_ | refine W_block ?_ | refine W_skip ?_ | refine W_exit ?_ | refine W_reg T ?_ | refine ld1 ?_); (conv => whnf)))
      refine W_cond rfl (fun h => ?_) (fun h => ?_)
      · have h1 : k < l.length := by
          have : decide ((k : Int) < (l.map rowA).length) = true := h
          simpa using this
        have m1 : l.getD k default ∈ l := by simp [h1]
        have hkm : (k : Int) < 1048577 := by omega
        have o1 := szA_ok (l.getD k default) a ha
        rw [szS_drop h1] at he
        ((conv => whnf); repeat' ((first | refine W_seq ?_ | refine W_block ?_ | refine W_skip ?_ | refine W_exit ?_ | refine W_reg T ?_ | refine ld1 ?_); (conv => whnf)))
        refine ⟨Int.natCast_nonneg k, by show (k : Int) < (l.map rowA).length; omega, _, rowMap l rowA _, ?_⟩
        refine .inl ⟨szCon (fun x : Aff => (true, rowA x)) ShA szA, (l.getD k default, a), szAffine_valid, ⟨hs.2 _ m1, ha⟩, .cons (.same _ _) (.cons (.same _ _) .nil), ?_⟩
        ((conv => whnf); repeat' ((first | refine W_seq ?_ | refine W_block ?_ | refine W_skip ?_ | refine W_exit ?_ | refine W_reg T ?_ | refine ld1 ?_); (conv => whnf)))
        refine W_cond rfl (fun h3 => ?_) (fun h3 => ?_)
        · have h3 : decide (szA (l.getD k default) a < 0) = true := h3
          ((conv => whnf); repeat' ((first | refine W_seq ?_ | refine W_block ?_ | refine W_skip ?_ | refine W_exit ?_ | refine W_reg T ?_ | refine ld1 ?_); (conv => whnf)))
          refine W_ret ⟨.inr rfl, .one (.p _ _ _ (.cons (.v _ _ (vI ?_)) .nil))⟩
          show -1 = szAs l left
          rw [he, thenSz, if_pos (of_decide_eq_true h3)]
        · have h3 : decide (szA (l.getD k default) a < 0) = false := h3
          have h3 := of_decide_eq_false h3
          rw [thenSz, if_neg h3] at he
          ((conv => whnf); repeat' ((first | refine W_seq ?_ | refine W_block ?_ | refine W_skip ?_ | refine W_exit ?_ | refine W_reg T ?_ | refine ld1 ?_); (conv => whnf)))
          refine ⟨by omega, ?_⟩
          exact ⟨(k + 1, szA (l.getD k default) a), ⟨h1, ⟨by omega, o1.2⟩, he⟩, by show l.length - (k + 1) < l.length - k; omega, by (refine St.le_mk ?_ ?_ ?_ ?_ ?_ ?_ ?_ <;> kernel_rfl)⟩
      · have h1 : k = l.length := by
          have : decide ((k : Int) < (l.map rowA).length) = false := h
          simp at this
          omega
        subst h1
        rw [List.drop_length, szS] at he
        ((conv => whnf); repeat' ((first | refine W_seq ?_ | refine W_block ?_ | refine W_skip ?_ | refine W_exit ?_ | refine W_reg T ?_ | refine ld1 ?_); (conv => whnf)))
        exact W_ret ⟨.inr rfl, .one (.p _ _ _ (.cons (.v _ _ (vI he.symm)) .nil))⟩
theorem szNet_valid : Valid Tryd.prog 4 (szCon (fun l : List Aff => (true, [netD l])) ShAs szAs) := by
  refine valid_intro (ts := [4]) (szCon (fun l : List Aff => (true, [netD l])) ShAs szAs) Tryd.func4 rfl rfl rfl (by decide) (fun _ => Nat.le_of_ble_eq_true rfl) ?_
  rintro ⟨l, left⟩ ⟨(hs : ShAs l), (hl : LeftOk left)⟩ nm nx
  have o1 := szAs_ok l left hl
  ((conv => whnf); repeat' ((first | refine W_seq ?_ | refine W_block ?_ | refine W_skip ?_ | refine W_exit ?_ | refine W_reg T ?_ | refine ld1 ?_); (conv => whnf)))
  refine .inl ⟨szCon (fun l : List Aff => (false, [netD l])) ShAs szAs, (l, left), szAffineS_valid, ⟨hs, hl⟩, .cons (.same _ _) (.cons (.same _ _) .nil), ?_⟩
  ((conv => whnf); repeat' ((first | refine W_seq ?_ | refine W_block ?_ | refine W_skip ?_ | refine W_exit ?_ | refine W_reg T ?_ | refine ld1 ?_); (conv => whnf)))
  refine W_cond rfl (fun h => ?_) (fun h => ?_)
  · have h : decide (szAs l left < 0) = true := h
    have h := of_decide_eq_true h
    have := o1.1
    ((conv => whnf); repeat' ((first | refine W_seq ?_ | refine W_block ?_ | refine W_skip ?_ | refine W_exit ?_ | refine W_reg T ?_ | refine ld1 ?_); (conv => whnf)))
    refine W_ret ⟨.inr rfl, .one (.p _ _ _ (.cons (.v _ _ (vI ?_)) .nil))⟩
    show -1 = szAs l left
    omega
  · ((conv => whnf); repeat' ((first | refine W_seq ?_ | refine W_block ?_ | refine W_skip ?_ | refine W_exit ?_ | refine W_reg T ?_ | refine ld1 ?_); (conv => whnf)))
    exact W_ret ⟨.inr rfl, .one (.p _ _ _ (.cons (.v _ _ (vI rfl)) .nil))⟩
end Go.Proofs.YthjjbfpcclojbaaDoor.Pv
end

section
/- Arguments of the laws, as the views have them: rationals, maps, nets that are read. Conditions: the types are the program's. -/
set_option linter.unusedVariables false
set_option linter.unusedSimpArgs false
namespace Go.Proofs.YthjjbfpcclojbaaDoor.Pv
open Go.ChangeShapes Go.WideShapes Go.Joins Go.RowKit Go.Proofs.YthjjbfpcclojbaaDoorW.PrintWords
/-- All memory that is there. -/
def mW (W : World) : M := ⟨W, fun k => k < W.heap.size, fun _ => none⟩
theorem bl_out {e : E} {b : Bool} {v : Value} (h : RelX e (bl b) v) : v = .bool b := by
  obtain ⟨vs, ⟨hl, hr⟩, hv⟩ := h
  obtain ⟨x, rfl⟩ : ∃ x, vs = [x] := by
    match vs, hl with
    | [x], _ => exact ⟨x, rfl⟩
  cases hr 0 _ _ rfl rfl
  exact (Option.some.inj hv).symm
theorem kd_li {α : Type} {d : Kd α} {mk : α → List D} {good : α → Prop} {W : World} (hk : ∀ x cs, d.K W x cs → good x → RelDL (mW W) (mk x) cs) (hs : 0 < d.sz) {A : Option Addr} {c : Nat} {l : List α} (hC : d.C W A l.length l) (hc : l.length ≤ c) (hg : ∀ x ∈ l, good x) :
    RelD (mW W) (.li none d.sz (l.map mk)) (.slice A l.length c) := by
  cases l with
  | nil => exact .nil _ _ _ _
  | cons a r =>
    obtain ⟨ad, rfl, hcell⟩ := hC.2.2 (by simp)
    have at_ : ∀ (i : Nat) x, (a :: r)[i]? = some x → ∃ cs, cs.length = d.sz ∧ RelDL (mW W) (mk x) cs ∧ ∀ (j : Nat) u, cs[j]? = some u → W.cell? (ad.add (i * d.sz + j)) = some u := by
      intro i x hx
      obtain ⟨cs, h1, h2, h3⟩ := hcell i x hx
      exact ⟨cs, h1, hk x cs h2 (hg x (List.mem_of_getElem? hx)), h3⟩
    obtain ⟨cs0, g1, g2, g3⟩ := at_ 0 a rfl
    have hu := g3 0 cs0[0] (List.getElem?_eq_getElem (by omega))
    rw [Nat.zero_mul, Nat.zero_add] at hu
    have hblk := World.block_lt_of_cell? W _ hu
    obtain ⟨blk, off, sp⟩ := ad
    have hsp : sp = none := by
      cases sp with
      | none => rfl
      | some s =>
        simp only [World.cell?, Addr.add, if_true] at hu
        split at hu <;> simp at hu
    subst hsp
    have hlen : ((a :: r).map mk).length = (a :: r).length := by simp
    rw [← hlen]
    rw [add_plain] at hu
    have hblk : blk < W.heap.size := World.block_lt_of_cell? W _ hu
    have key : ∀ i j y, cellAt ((a :: r).map mk) i j = some y → ∃ u, W.cell? ⟨blk, off + (i * d.sz + j), none⟩ = some u ∧ RelD (mW W) y u := by
      intro i j y hy
      unfold cellAt at hy
      rw [List.getElem?_map] at hy
      cases hx : (a :: r)[i]? with
      | none => rw [hx] at hy; cases hy
      | some x =>
        rw [hx] at hy
        have hy : (mk x)[j]? = some y := hy
        obtain ⟨cs, h1, h2, h3⟩ := at_ i x hx
        have hj : j < cs.length := by rw [← h2.1]; exact (List.getElem?_eq_some_iff.1 hy).1
        have h4 := h3 j cs[j] (List.getElem?_eq_getElem hj)
        rw [add_plain] at h4
        exact ⟨cs[j], h4, h2.2 j y cs[j] hy (List.getElem?_eq_getElem hj)⟩
    refine .li none d.sz _ blk off c (fun i j => (W.cell? ⟨blk, off + (i * d.sz + j), none⟩).getD undef) hblk (fun i j y hy => ?_) (fun i j y hy => ?_) (by rw [hlen]; exact hc)
    · obtain ⟨u, h1, h2⟩ := key i j y hy
      show W.cell? _ = some ((W.cell? _).getD undef)
      rw [h1]
      rfl
    · obtain ⟨u, h1, h2⟩ := key i j y hy
      rw [h1]
      exact h2
theorem relDL1 {m : M} {d : D} {v : Value} (h : RelD m d v) : RelDL m [d] [v] := ⟨rfl, fun i x u hx hu => by
  cases i with
  | zero => cases hx; cases hu; exact h
  | succ i => cases hx⟩
theorem relDL_cons {m : M} {d : D} {v : Value} {ds : List D} {vs : List Value} (h : RelD m d v) (hs : RelDL m ds vs) : RelDL m (d :: ds) (v :: vs) := ⟨by simp [hs.1], fun i x u hx hu => by
  cases i with
  | zero => cases hx; cases hu; exact h
  | succ i => exact hs.2 i x u hx hu⟩
/-- A triple as it is seen. -/
def gR (r : Hand.Rt) : RtD := (r.neg, r.num.map Int.toNat, r.den.map Int.toNat)
def goodRt (r : Hand.Rt) : Prop := (Hand.Limbs r.num ∧ Hand.Limbs r.den) ∧ r.num.length ≤ 9223372036854775807 ∧ r.den.length ≤ 9223372036854775807
theorem lim_rel {W : World} {A : Option Addr} {c : Nat} {l : List Int} (hC : (Kd.int .u32).C W A l.length l) (hc : l.length ≤ c) (hl : Hand.Limbs l) : RelD (mW W) (limR (l.map Int.toNat)) (.slice A l.length c) := by
  have h := kd_li (d := Kd.int .u32) (mk := fun x => [.v (.int .u32 x)]) (good := fun _ => True) (fun x cs hx _ => by
    have hx : cs = [.int .u32 x] := hx
    subst hx
    exact relDL1 (.v _ rfl)) (Nat.zero_lt_one) hC hc (fun _ _ => trivial)
  have e : (l.map fun x => [D.v (.int .u32 x)]) = (l.map Int.toNat).map fun (x : Nat) => [D.v (.int .u32 (x : Int))] := by
    rw [List.map_map]
    refine List.map_congr_left fun x hx => ?_
    have := hl x hx
    show [D.v (.int .u32 x)] = [D.v (.int .u32 (x.toNat : Int))]
    rw [Int.toNat_of_nonneg (by omega)]
  rw [e] at h
  exact h
theorem rat_rel {W : World} {r : Hand.Rt} {cs : List Value} (h : Hand.ratK.K W r cs) (hg : goodRt r) : RelDL (mW W) (rowR (gR r)) cs := by
  obtain ⟨A, c, A', c', rfl, h1, h2, h3, h4⟩ := Hand.ratK_form h
  exact relDL_cons (.v _ rfl) (relDL_cons (lim_rel h2 h1 hg.1.1) (relDL1 (lim_rel h4 h3 hg.1.2)))
def ratsOk (l : List Hand.Rt) : Prop := l.length ≤ 9223372036854775807 ∧ ∀ r ∈ l, goodRt r
theorem rats_rel {W : World} {A : Option Addr} {c : Nat} {l : List Hand.Rt} (hC : Hand.ratK.C W A l.length l) (hc : l.length ≤ c) (hl : ratsOk l) : RelD (mW W) (ratsR (l.map gR)) (.slice A l.length c) := by
  have h := kd_li (d := Hand.ratK) (mk := fun r => rowR (gR r)) (good := goodRt) (fun x cs hx hg => rat_rel hx hg) (by decide) hC hc hl.2
  have e : (l.map gR).map rowR = l.map fun r => rowR (gR r) := by rw [List.map_map]; rfl
  unfold ratsR
  rw [e]
  exact h
theorem opens_ratG : Hand.Opens Hand.ratK 95 goodRt := by
  intro H enc W fuel cs x hx
  obtain ⟨r, hK, hl⟩ := Hand.opens_rat enc W fuel cs x hx
  obtain ⟨A, c, A', c', rfl, h1, h2, h3, h4⟩ := Hand.ratK_form hK
  exact ⟨r, hK, hl, h2.2.1, h4.2.1⟩
def ratsK : Kd (List Hand.Rt) := Kd.slice 95 Hand.ratK
theorem opens_rats : Hand.Opens ratsK 62 ratsOk := by
  intro H enc W fuel cs x hx
  obtain ⟨l, hK, hl⟩ := Hand.opens_slice Tryd.underlying62 (by kernel_rfl) opens_ratG enc W fuel cs x hx
  have hK' := hK
  obtain ⟨A, c, e, h1, h2⟩ := hK'
  exact ⟨l, hK, h2.2.1, hl⟩
/-- A map: its two numbers and its two lists. -/
def affK : Kd (Int × Int × List Hand.Rt × List Hand.Rt) := Kd.pair (Kd.int .i64) (Kd.pair (Kd.int .i64) (Kd.pair ratsK ratsK))
def gA (x : Int × Int × List Hand.Rt × List Hand.Rt) : Aff := ⟨x.1, x.2.1, x.2.2.1.map gR, x.2.2.2.map gR⟩
def goodAf (x : Int × Int × List Hand.Rt × List Hand.Rt) : Prop := ratsOk x.2.2.1 ∧ ratsOk x.2.2.2
theorem aff_rel {W : World} {x : Int × Int × List Hand.Rt × List Hand.Rt} {cs : List Value} (h : affK.K W x cs) (hg : goodAf x) : RelDL (mW W) (rowA (gA x)) cs := by
  obtain ⟨c0, c1, rfl, h0, c2, c3, rfl, h1, c4, c5, rfl, ⟨A, c, rfl, h2, h3⟩, A', c', rfl, h4, h5⟩ := h
  have h0 : c0 = [.int .i64 x.1] := h0
  have h1 : c2 = [.int .i64 x.2.1] := h1
  subst h0 h1
  exact relDL_cons (.v _ rfl) (relDL_cons (.v _ rfl) (relDL_cons (rats_rel h3 h2 hg.1) (relDL1 (rats_rel h5 h4 hg.2))))
set_option maxRecDepth 100000 in
theorem opens_aff : Hand.Opens affK 64 goodAf := by
  intro H enc W fuel cs x h
  obtain ⟨y0, y1, y2, y3, n, hx, hl, h0, h1, h2, h3⟩ := trod_struct4 Tryd.underlying64 h
  rw [show Tryd.prog.cellsOf 64 = 4 by kernel_rfl] at hl
  obtain ⟨c0, c1, c2, c3, rfl⟩ : ∃ a b c d, cs = [a, b, c, d] := by
    match cs, hl with
    | [a, b, c, d], _ => exact ⟨a, b, c, d, rfl⟩
  have h0' : DataW.trod enc Tryd.prog W 0 (fun _ => true) true n 3 [c0] = some y0 := h0
  have h1' : DataW.trod enc Tryd.prog W 0 (fun _ => true) true n 3 [c1] = some y1 := h1
  have h2' : DataW.trod enc Tryd.prog W 0 (fun _ => true) true n 62 [c2] = some y2 := h2
  have h3' : DataW.trod enc Tryd.prog W 0 (fun _ => true) true n 62 [c3] = some y3 := h3
  obtain ⟨a, ha, _⟩ := Hand.opens_int Tryd.underlying3 enc W n _ _ h0'
  obtain ⟨b, hb, _⟩ := Hand.opens_int Tryd.underlying3 enc W n _ _ h1'
  obtain ⟨l, hK, gl⟩ := opens_rats enc W n _ _ h2'
  obtain ⟨l', hK', gl'⟩ := opens_rats enc W n _ _ h3'
  exact ⟨(a, b, l, l'), ⟨[c0], [c1, c2, c3], rfl, ha, [c1], [c2, c3], rfl, hb, [c2], [c3], rfl, hK, hK'⟩, gl, gl'⟩
theorem opens_affs : Hand.Opens (Kd.slice 64 affK) 22 (fun l => ∀ x ∈ l, goodAf x) := Hand.opens_slice Tryd.underlying22 (by kernel_rfl) opens_aff
/-- Limbs that are limbs; lists that memory can hold. -/
def RawR (r : RtD) : Prop := (∀ x ∈ r.2.1, x < 4294967296) ∧ ∀ x ∈ r.2.2, x < 4294967296
def RawA (m : Aff) : Prop := (∀ r ∈ m.W, RawR r) ∧ ∀ r ∈ m.B, RawR r
theorem raw_R {r : Hand.Rt} (h : goodRt r) : RawR (gR r) := by
  have key : ∀ {l : List Int}, Hand.Limbs l → ∀ x ∈ l.map Int.toNat, x < 4294967296 := by
    intro l hl x hx
    obtain ⟨y, hy, rfl⟩ := List.mem_map.1 hx
    have := hl y hy
    omega
  exact ⟨key h.1.1, key h.1.2⟩
theorem raw_Rs {l : List Hand.Rt} (h : ratsOk l) : (∀ r ∈ l.map gR, RawR r) ∧ ShRs (l.map gR) := by
  refine ⟨fun r hr => ?_, by simpa using h.1, fun r hr => ?_⟩
  · obtain ⟨y, hy, rfl⟩ := List.mem_map.1 hr
    exact raw_R (h.2 y hy)
  · obtain ⟨y, hy, rfl⟩ := List.mem_map.1 hr
    have := (h.2 y hy).2
    exact ⟨by simpa [Short, gR] using this.1, by simpa [Short, gR] using this.2⟩
set_option maxRecDepth 100000 in
/-- A parameter that is a net. -/
theorem arg_net {H : Type} {enc : TypeId × Value → H} {W : World} {r : Reach} {b0 : Nat} {v : Value} {d : DataW H} {p : List MemPlace} (hv : Value.okWide Tryd.prog W r b0 24 v) (h : DataW.Trod enc Tryd.prog W 0 (fun _ => true) true 24 v d p) :
    ∃ ms : List Aff, argsRel (mW W) [(true, [netD ms])] [v] ∧ ShAs ms ∧ ∀ m ∈ ms, RawA m := by
  obtain ⟨cs, rfl, hsz⟩ := okWide_struct Tryd.underlying24 hv
  obtain ⟨fuel, hf⟩ := h
  obtain ⟨y0, n, hx, hl, h0⟩ := trod_struct1 Tryd.underlying24 hf
  rw [show Tryd.prog.cellsOf 24 = 1 by kernel_rfl] at hsz
  obtain ⟨c0, rfl⟩ : ∃ c0, cs = #[c0] := by
    obtain ⟨k⟩ := cs
    match k, hsz with
    | [c0], _ => exact ⟨c0, rfl⟩
  have h0' : DataW.trod enc Tryd.prog W 0 (fun _ => true) true n 22 [c0] = some y0 := h0
  obtain ⟨l, ⟨A, c, e, hc, hC⟩, gl⟩ := opens_affs enc W n _ _ h0'
  simp only [List.cons.injEq, and_true] at e
  subst e
  have hrel := kd_li (d := affK) (mk := fun x => rowA (gA x)) (good := goodAf) (fun x cs hx hg => aff_rel hx hg) (by decide) hC hc gl
  have e2 : (l.map gA).map rowA = l.map fun x => rowA (gA x) := by rw [List.map_map]; rfl
  refine ⟨l.map gA, ⟨rfl, fun i x u hx hu => ?_⟩, ⟨by simpa using hC.2.1, fun m hm => ?_⟩, fun m hm => ?_⟩
  · cases i with
    | zero =>
      cases hx
      cases hu
      refine ⟨[.slice A l.length c], relDL1 ?_, rfl⟩
      unfold netD
      rw [e2]
      exact hrel
    | succ i => cases hx
  · obtain ⟨x, hx, rfl⟩ := List.mem_map.1 hm
    exact ⟨(raw_Rs (gl x hx).1).2, (raw_Rs (gl x hx).2).2⟩
  · obtain ⟨x, hx, rfl⟩ := List.mem_map.1 hm
    exact ⟨(raw_Rs (gl x hx).1).1, (raw_Rs (gl x hx).2).1⟩
end Go.Proofs.YthjjbfpcclojbaaDoor.Pv
end

section
/- Where the size is not negative, every list is short. No condition. -/
set_option linter.unusedVariables false
namespace Go.Proofs.YthjjbfpcclojbaaDoor.Pv
theorem szN_pos {n : Nat} {a : Int} (ha : LeftOk a) (h : 0 ≤ szN n a) : n ≤ 1048576 := by
  have := ha.2
  unfold szN at h
  split at h <;> omega
theorem thenSz_pos {a : Int} {f : Int → Int} (h : 0 ≤ thenSz a f) : 0 ≤ a ∧ 0 ≤ f a := by
  unfold thenSz at h
  split at h
  · omega
  · exact ⟨by omega, h⟩
theorem szS_pos {α : Type} {f : α → Int → Int} {G : α → Prop} (hf : ∀ x a, LeftOk a → SzOk (f x a)) (hg : ∀ x a, LeftOk a → 0 ≤ f x a → G x) : ∀ (l : List α) (a : Int), LeftOk a → 0 ≤ szS f l a → ∀ x ∈ l, G x
  | [], a, _, _, x, hx => by cases hx
  | y :: r, a, ha, h, x, hx => by
    obtain ⟨h1, h2⟩ := thenSz_pos (f := szS f r) h
    rcases List.mem_cons.1 hx with rfl | hx
    · exact hg _ a ha h1
    · exact szS_pos hf hg r _ ⟨h1, (hf y a ha).2⟩ h2 x hx
def ShortR (r : RtD) : Prop := r.2.1.length ≤ 1048576 ∧ r.2.2.length ≤ 1048576
def ShortRs (l : List RtD) : Prop := l.length ≤ 1048576 ∧ ∀ r ∈ l, ShortR r
def ShortA (m : Aff) : Prop := ShortRs m.W ∧ ShortRs m.B
def ShortAs (l : List Aff) : Prop := l.length ≤ 1048576 ∧ ∀ m ∈ l, ShortA m
theorem szR_pos (r : RtD) (a : Int) (ha : LeftOk a) (h : 0 ≤ szR r a) : ShortR r := by
  obtain ⟨h1, h2⟩ := thenSz_pos h
  exact ⟨szN_pos ha h1, szN_pos ⟨h1, (szN_ok ha).2⟩ h2⟩
theorem szRs_pos (l : List RtD) (a : Int) (ha : LeftOk a) (h : 0 ≤ szRs l a) : ShortRs l := by
  obtain ⟨h1, h2⟩ := thenSz_pos h
  exact ⟨szN_pos ha h1, szS_pos szR_ok szR_pos l _ ⟨h1, (szN_ok ha).2⟩ h2⟩
theorem szA_pos (m : Aff) (a : Int) (ha : LeftOk a) (h : 0 ≤ szA m a) : ShortA m := by
  obtain ⟨h1, h2⟩ := thenSz_pos h
  exact ⟨szRs_pos _ _ ha h1, szRs_pos _ _ ⟨h1, (szRs_ok _ _ ha).2⟩ h2⟩
theorem szAs_pos (l : List Aff) (a : Int) (ha : LeftOk a) (h : 0 ≤ szAs l a) : ShortAs l := by
  obtain ⟨h1, h2⟩ := thenSz_pos h
  exact ⟨szN_pos ha h1, szS_pos szA_ok szA_pos l _ ⟨h1, (szN_ok ha).2⟩ h2⟩
end Go.Proofs.YthjjbfpcclojbaaDoor.Pv
end

section
/- Equality of rows of limbs and of rationals. No condition. -/
set_option linter.unusedVariables false
set_option linter.unusedSimpArgs false
namespace Go.Proofs.YthjjbfpcclojbaaDoor.Pv
open Go.RowKit
def eqLCon : Con := ⟨List Nat × List Nat, fun g => [(false, [limR g.1]), (false, [limR g.2])], fun g => Lok g.1 ∧ Lok g.2, fun _ g => bl (decide (g.1 = g.2)), true⟩
theorem eqUint32S_valid : Valid Tryd.prog 81 eqLCon := by
  refine valid_intro (ts := [4]) eqLCon Tryd.func81 rfl rfl rfl (by decide) (fun _ => Nat.le_of_ble_eq_true rfl) ?_
  rintro ⟨a, b⟩ ⟨(ha : Lok a), (hb : Lok b)⟩ nm nx
  have l1 : (a.map limRow).length = a.length := by simp
  have l2 : (b.map limRow).length = b.length := by simp
  ((conv => whnf); repeat' ((first | refine W_seq ?_ | refine W_block ?_ | refine W_skip ?_ | refine W_exit ?_ | refine W_reg T ?_ | refine ld1 ?_); (conv => whnf)))
  refine W_cond rfl (fun h => ?_) (fun h => ?_)
  · have h : (((a.map limRow).length : Int) != ((b.map limRow).length : Int)) = true := h
    rw [l1, l2] at h
    ((conv => whnf); repeat' ((first | refine W_seq ?_ | refine W_block ?_ | refine W_skip ?_ | refine W_exit ?_ | refine W_reg T ?_ | refine ld1 ?_); (conv => whnf)))
    refine W_ret ⟨.inr rfl, .one (.p _ _ _ (.cons (.v _ _ (no fun e => ?_)) .nil))⟩
    have e : a = b := e
    subst e
    simp at h
  · have h : (((a.map limRow).length : Int) != ((b.map limRow).length : Int)) = false := h
    rw [l1, l2] at h
    have hl : a.length = b.length := by have := bne_eq_false_iff_eq.1 h; omega
    ((conv => whnf); repeat' ((first | refine W_seq ?_ | refine W_block ?_ | refine W_skip ?_ | refine W_exit ?_ | refine W_reg T ?_ | refine ld1 ?_); (conv => whnf)))
    refine W_loop (ι := Nat) (fun k => k ≤ a.length ∧ a.take k = b.take k) (fun k => ⟨[(0, .one (.p false [limR a])), (1, .one (.p false [limR b])), (5, int .i64 k)], [], 26, nx, 0⟩) (fun k => a.length - k) 0 ⟨Nat.zero_le _, by simp⟩ (by (refine St.le_mk ?_ ?_ ?_ ?_ ?_ ?_ ?_ <;> kernel_rfl)) ?_
    rintro k ⟨hk, he⟩
    ((conv => whnf); repeat' ((first | refine W_seq ?_ | refine W_block ?_ | refine W_skip ?_ | refine W_exit ?_ | refine W_reg T ?_ | refine ld1 ?_); (conv => whnf)))
    refine W_cond rfl (fun h => ?_) (fun h => ?_)
    · have h1 : k < a.length := by
        have : decide ((k : Int) < (a.map limRow).length) = true := h
        simpa using this
      have h2 : k < b.length := by omega
      ((conv => whnf); repeat' ((first | refine W_seq ?_ | refine W_block ?_ | refine W_skip ?_ | refine W_exit ?_ | refine W_reg T ?_ | refine ld1 ?_); (conv => whnf)))
      refine W_draw T 9 rfl (by kernel_rfl) ?_
      refine ⟨Int.natCast_nonneg k, by show (k : Int) < (a.map limRow).length; omega, _, rowMap a limRow _, ?_⟩
      refine ⟨Int.natCast_nonneg k, by show (k : Int) < (b.map limRow).length; omega, _, rowMap b limRow _, ?_⟩
      ((conv => whnf); repeat' ((first | refine W_seq ?_ | refine W_block ?_ | refine W_skip ?_ | refine W_exit ?_ | refine W_reg T ?_ | refine ld1 ?_); (conv => whnf)))
      refine W_cond rfl (fun h3 => ?_) (fun h3 => ?_)
      · have h3 : (((a.getD k default : Nat) : Int) != ((b.getD k default : Nat) : Int)) = true := h3
        ((conv => whnf); repeat' ((first | refine W_seq ?_ | refine W_block ?_ | refine W_skip ?_ | refine W_exit ?_ | refine W_reg T ?_ | refine ld1 ?_); (conv => whnf)))
        refine W_ret ⟨.inr rfl, .one (.p _ _ _ (.cons (.v _ _ (no fun e => ?_)) .nil))⟩
        have e : a = b := e
        subst e
        simp at h3
      · have h3 : (((a.getD k default : Nat) : Int) != ((b.getD k default : Nat) : Int)) = false := h3
        have h4 : a.getD k default = b.getD k default := by
          have := (bne_eq_false_iff_eq.1 h3)
          omega
        ((conv => whnf); repeat' ((first | refine W_seq ?_ | refine W_block ?_ | refine W_skip ?_ | refine W_exit ?_ | refine W_reg T ?_ | refine ld1 ?_); (conv => whnf)))
        refine ⟨by have := ha.2; omega, ?_⟩
        exact ⟨k + 1, ⟨h1, by rw [take_snoc a h1, take_snoc b h2, he, h4]⟩, by omega, by (refine St.le_mk ?_ ?_ ?_ ?_ ?_ ?_ ?_ <;> kernel_rfl)⟩
    · have h1 : k = a.length := by
        have : decide ((k : Int) < (a.map limRow).length) = false := h
        simp at this
        omega
      subst h1
      ((conv => whnf); repeat' ((first | refine W_seq ?_ | refine W_block ?_ | refine W_skip ?_ | refine W_exit ?_ | refine W_reg T ?_ | refine ld1 ?_); (conv => whnf)))
      refine W_ret ⟨.inr rfl, .one (.p _ _ _ (.cons (.v _ _ (yes ?_)) .nil))⟩
      show a = b
      rw [List.take_length, hl, List.take_length] at he
      exact he
def eqRCon : Con := ⟨RtD × RtD, fun g => [(true, rowR g.1), (true, rowR g.2)], fun g => Rok g.1 ∧ Rok g.2, fun _ g => bl (decide (g.1 = g.2)), true⟩
theorem eqRat_valid : Valid Tryd.prog 64 eqRCon := by
  refine valid_intro (ts := [4]) eqRCon Tryd.func64 rfl rfl rfl (by decide) (fun _ => Nat.le_of_ble_eq_true rfl) ?_
  rintro ⟨⟨a1, a2, a3⟩, ⟨b1, b2, b3⟩⟩ ⟨(ha : Lok a2 ∧ Lok a3), (hb : Lok b2 ∧ Lok b3)⟩ nm nx
  have bad : ¬((a1, a2, a3) = ((b1, b2, b3) : RtD)) → Value.bool false = Value.bool (decide ((a1, a2, a3) = ((b1, b2, b3) : RtD))) := fun h => no h
  ((conv => whnf); repeat' ((first | refine W_seq ?_ | refine W_block ?_ | refine W_skip ?_ | refine W_exit ?_ | refine W_reg T ?_ | refine ld1 ?_); (conv => whnf)))
  refine W_cond rfl (fun h => ?_) (fun h => ?_)
  · have h : (a1 != b1) = true := h
    ((conv => whnf); repeat' ((first | refine W_seq ?_ | refine W_block ?_ | refine W_skip ?_ | refine W_exit ?_ | refine W_reg T ?_ | refine ld1 ?_); (conv => whnf)))
    refine W_ret ⟨.inr rfl, .one (.p _ _ _ (.cons (.v _ _ (bad fun e => ?_)) .nil))⟩
    cases e
    simp at h
  · have h : (a1 != b1) = false := h
    have h : a1 = b1 := by simpa using h
    ((conv => whnf); repeat' ((first | refine W_seq ?_ | refine W_block ?_ | refine W_skip ?_ | refine W_exit ?_ | refine W_reg T ?_ | refine ld1 ?_); (conv => whnf)))
    refine .inl ⟨eqLCon, (a2, b2), eqUint32S_valid, ⟨ha.1, hb.1⟩, .cons (.same _ _) (.cons (.same _ _) .nil), ?_⟩
    ((conv => whnf); repeat' ((first | refine W_seq ?_ | refine W_block ?_ | refine W_skip ?_ | refine W_exit ?_ | refine W_reg T ?_ | refine ld1 ?_); (conv => whnf)))
    refine W_cond rfl (fun h2 => ?_) (fun h2 => ?_)
    · have h2 : (!decide (a2 = b2)) = true := h2
      ((conv => whnf); repeat' ((first | refine W_seq ?_ | refine W_block ?_ | refine W_skip ?_ | refine W_exit ?_ | refine W_reg T ?_ | refine ld1 ?_); (conv => whnf)))
      refine W_ret ⟨.inr rfl, .one (.p _ _ _ (.cons (.v _ _ (bad fun e => ?_)) .nil))⟩
      cases e
      simp at h2
    · have h2 : (!decide (a2 = b2)) = false := h2
      have h2 : a2 = b2 := by simpa using h2
      ((conv => whnf); repeat' ((first | refine W_seq ?_ | refine W_block ?_ | refine W_skip ?_ | refine W_exit ?_ | refine W_reg T ?_ | refine ld1 ?_); (conv => whnf)))
      refine .inl ⟨eqLCon, (a3, b3), eqUint32S_valid, ⟨ha.2, hb.2⟩, .cons (.same _ _) (.cons (.same _ _) .nil), ?_⟩
      ((conv => whnf); repeat' ((first | refine W_seq ?_ | refine W_block ?_ | refine W_skip ?_ | refine W_exit ?_ | refine W_reg T ?_ | refine ld1 ?_); (conv => whnf)))
      refine W_cond rfl (fun h3 => ?_) (fun h3 => ?_)
      · have h3 : (!decide (a3 = b3)) = true := h3
        ((conv => whnf); repeat' ((first | refine W_seq ?_ | refine W_block ?_ | refine W_skip ?_ | refine W_exit ?_ | refine W_reg T ?_ | refine ld1 ?_); (conv => whnf)))
        refine W_ret ⟨.inr rfl, .one (.p _ _ _ (.cons (.v _ _ (bad fun e => ?_)) .nil))⟩
        cases e
        simp at h3
      · have h3 : (!decide (a3 = b3)) = false := h3
        have h3 : a3 = b3 := by simpa using h3
        ((conv => whnf); repeat' ((first | refine W_seq ?_ | refine W_block ?_ | refine W_skip ?_ | refine W_exit ?_ | refine W_reg T ?_ | refine ld1 ?_); (conv => whnf)))
        refine W_ret ⟨.inr rfl, .one (.p _ _ _ (.cons (.v _ _ (yes ?_)) .nil))⟩
        show (a1, a2, a3) = ((b1, b2, b3) : RtD)
        rw [h, h2, h3]
end Go.Proofs.YthjjbfpcclojbaaDoor.Pv
end

section
/- Equality of lists of rationals, of maps, of nets. No condition. -/
set_option linter.unusedVariables false
set_option linter.unusedSimpArgs false
namespace Go.Proofs.YthjjbfpcclojbaaDoor.Pv
open Go.RowKit

deriving instance DecidableEq for Aff
def eqRsCon : Con := ⟨List RtD × List RtD, fun g => [(false, [ratsR g.1]), (false, [ratsR g.2])], fun g => LsOk g.1 ∧ LsOk g.2, fun _ g => bl (decide (g.1 = g.2)), true⟩
theorem eqRatS_valid : Valid Tryd.prog 51 eqRsCon := by
  refine valid_intro (ts := [4]) eqRsCon Tryd.func51 rfl rfl rfl (by decide) (fun _ => Nat.le_of_ble_eq_true rfl) ?_
  rintro ⟨a, b⟩ ⟨(ha : LsOk a), (hb : LsOk b)⟩ nm nx
  have l1 : (a.map rowR).length = a.length := by simp
  have l2 : (b.map rowR).length = b.length := by simp
  have la := ha.1
  ((conv => whnf); repeat' ((first | refine W_seq ?_ | refine W_block ?_ | refine W_skip ?_ | refine W_exit ?_ | refine W_reg T ?_ | refine ld1 ?_); (conv => whnf)))
  refine W_cond rfl (fun h => ?_) (fun h => ?_)
  · have h : (((a.map rowR).length : Int) != ((b.map rowR).length : Int)) = true := h
    rw [l1, l2] at h
    ((conv => whnf); repeat' ((first | refine W_seq ?_ | refine W_block ?_ | refine W_skip ?_ | refine W_exit ?_ | refine W_reg T ?_ | refine ld1 ?_); (conv => whnf)))
    refine W_ret ⟨.inr rfl, .one (.p _ _ _ (.cons (.v _ _ (no fun e => ?_)) .nil))⟩
    have e : a = b := e
    subst e
    simp at h
  · have h : (((a.map rowR).length : Int) != ((b.map rowR).length : Int)) = false := h
    rw [l1, l2] at h
    have hl : a.length = b.length := by have := bne_eq_false_iff_eq.1 h; omega
    ((conv => whnf); repeat' ((first | refine W_seq ?_ | refine W_block ?_ | refine W_skip ?_ | refine W_exit ?_ | refine W_reg T ?_ | refine ld1 ?_); (conv => whnf)))
    refine W_loop (ι := Nat) (fun k => k ≤ a.length ∧ a.take k = b.take k) (fun k => ⟨[(0, .one (.p false [ratsR a])), (1, .one (.p false [ratsR b])), (5, int .i64 k)], [], 27, nx, 0⟩) (fun k => a.length - k) 0 ⟨Nat.zero_le _, by simp⟩ (by (refine St.le_mk ?_ ?_ ?_ ?_ ?_ ?_ ?_ <;> kernel_rfl)) ?_
    rintro k ⟨hk, he⟩
    ((conv => whnf); repeat' ((first | refine W_seq ?_ | refine W_block ?_ | refine W_skip ?_ | refine W_exit ?_ | refine W_reg T ?_ | refine ld1 ?_); (conv => whnf)))
    refine W_cond rfl (fun h => ?_) (fun h => ?_)
    · have h1 : k < a.length := by
        have : decide ((k : Int) < (a.map rowR).length) = true := h
        simpa using this
      have h2 : k < b.length := by omega
      have m1 : a.getD k default ∈ a := by simp [h1]
      have m2 : b.getD k default ∈ b := by simp [h2]
      ((conv => whnf); repeat' ((first | refine W_seq ?_ | refine W_block ?_ | refine W_skip ?_ | refine W_exit ?_ | refine W_reg T ?_ | refine ld1 ?_); (conv => whnf)))
      refine W_draw T 10 rfl (by kernel_rfl) ?_
      refine ⟨Int.natCast_nonneg k, by show (k : Int) < (a.map rowR).length; omega, _, rowMap a rowR _, ?_⟩
      refine ⟨Int.natCast_nonneg k, by show (k : Int) < (b.map rowR).length; omega, _, rowMap b rowR _, ?_⟩
      refine ⟨eqRCon, (a.getD k default, b.getD k default), eqRat_valid, ⟨ha.2 _ m1, hb.2 _ m2⟩, .cons (.same _ _) (.cons (.same _ _) .nil), ?_⟩
      ((conv => whnf); repeat' ((first | refine W_seq ?_ | refine W_block ?_ | refine W_skip ?_ | refine W_exit ?_ | refine W_reg T ?_ | refine ld1 ?_); (conv => whnf)))
      refine W_cond rfl (fun h3 => ?_) (fun h3 => ?_)
      · have h3 : (!decide (a.getD k default = b.getD k default)) = true := h3
        ((conv => whnf); repeat' ((first | refine W_seq ?_ | refine W_block ?_ | refine W_skip ?_ | refine W_exit ?_ | refine W_reg T ?_ | refine ld1 ?_); (conv => whnf)))
        refine W_ret ⟨.inr rfl, .one (.p _ _ _ (.cons (.v _ _ (no fun e => ?_)) .nil))⟩
        have e : a = b := e
        subst e
        simp at h3
      · have h3 : (!decide (a.getD k default = b.getD k default)) = false := h3
        have h4 : a.getD k default = b.getD k default := of_decide_eq_true (by rw [Bool.not_eq_false'] at h3; exact h3)
        ((conv => whnf); repeat' ((first | refine W_seq ?_ | refine W_block ?_ | refine W_skip ?_ | refine W_exit ?_ | refine W_reg T ?_ | refine ld1 ?_); (conv => whnf)))
        refine ⟨by omega, ?_⟩
        exact ⟨k + 1, ⟨h1, by rw [take_snoc a h1, take_snoc b h2, he, h4]⟩, by omega, by (refine St.le_mk ?_ ?_ ?_ ?_ ?_ ?_ ?_ <;> kernel_rfl)⟩
    · have h1 : k = a.length := by
        have : decide ((k : Int) < (a.map rowR).length) = false := h
        simp at this
        omega
      subst h1
      ((conv => whnf); repeat' ((first | refine W_seq ?_ | refine W_block ?_ | refine W_skip ?_ | refine W_exit ?_ | refine W_reg T ?_ | refine ld1 ?_); (conv => whnf)))
      refine W_ret ⟨.inr rfl, .one (.p _ _ _ (.cons (.v _ _ (yes ?_)) .nil))⟩
      show a = b
      rw [List.take_length, hl, List.take_length] at he
      exact he
def AffOk (m : Aff) : Prop := LsOk m.W ∧ LsOk m.B
def eqACon : Con := ⟨Aff × Aff, fun g => [(true, rowA g.1), (true, rowA g.2)], fun g => AffOk g.1 ∧ AffOk g.2, fun _ g => bl (decide (g.1 = g.2)), true⟩
theorem eqAffine_valid : Valid Tryd.prog 39 eqACon := by
  refine valid_intro (ts := [4]) eqACon Tryd.func39 rfl rfl rfl (by decide) (fun _ => Nat.le_of_ble_eq_true rfl) ?_
  rintro ⟨⟨a1, a2, a3, a4⟩, ⟨b1, b2, b3, b4⟩⟩ ⟨(ha : LsOk a3 ∧ LsOk a4), (hb : LsOk b3 ∧ LsOk b4)⟩ nm nx
  have bad : ¬(Aff.mk a1 a2 a3 a4 = Aff.mk b1 b2 b3 b4) → Value.bool false = Value.bool (decide (Aff.mk a1 a2 a3 a4 = Aff.mk b1 b2 b3 b4)) := fun h => no h
  ((conv => whnf); repeat' ((first | refine W_seq ?_ | refine W_block ?_ | refine W_skip ?_ | refine W_exit ?_ | refine W_reg T ?_ | refine ld1 ?_); (conv => whnf)))
  refine W_cond rfl (fun h => ?_) (fun h => ?_)
  · have h : (a1 != b1) = true := h
    ((conv => whnf); repeat' ((first | refine W_seq ?_ | refine W_block ?_ | refine W_skip ?_ | refine W_exit ?_ | refine W_reg T ?_ | refine ld1 ?_); (conv => whnf)))
    refine W_ret ⟨.inr rfl, .one (.p _ _ _ (.cons (.v _ _ (bad fun e => ?_)) .nil))⟩
    cases e
    simp at h
  · have h : (a1 != b1) = false := h
    have h : a1 = b1 := bne_eq_false_iff_eq.1 h
    ((conv => whnf); repeat' ((first | refine W_seq ?_ | refine W_block ?_ | refine W_skip ?_ | refine W_exit ?_ | refine W_reg T ?_ | refine ld1 ?_); (conv => whnf)))
    refine W_cond rfl (fun h0 => ?_) (fun h0 => ?_)
    · have h0 : (a2 != b2) = true := h0
      ((conv => whnf); repeat' ((first | refine W_seq ?_ | refine W_block ?_ | refine W_skip ?_ | refine W_exit ?_ | refine W_reg T ?_ | refine ld1 ?_); (conv => whnf)))
      refine W_ret ⟨.inr rfl, .one (.p _ _ _ (.cons (.v _ _ (bad fun e => ?_)) .nil))⟩
      cases e
      simp at h0
    · have h0 : (a2 != b2) = false := h0
      have h0 : a2 = b2 := bne_eq_false_iff_eq.1 h0
      ((conv => whnf); repeat' ((first | refine W_seq ?_ | refine W_block ?_ | refine W_skip ?_ | refine W_exit ?_ | refine W_reg T ?_ | refine ld1 ?_); (conv => whnf)))
      refine .inl ⟨eqRsCon, (a3, b3), eqRatS_valid, ⟨ha.1, hb.1⟩, .cons (.same _ _) (.cons (.same _ _) .nil), ?_⟩
      ((conv => whnf); repeat' ((first | refine W_seq ?_ | refine W_block ?_ | refine W_skip ?_ | refine W_exit ?_ | refine W_reg T ?_ | refine ld1 ?_); (conv => whnf)))
      refine W_cond rfl (fun h2 => ?_) (fun h2 => ?_)
      · have h2 : (!decide (a3 = b3)) = true := h2
        ((conv => whnf); repeat' ((first | refine W_seq ?_ | refine W_block ?_ | refine W_skip ?_ | refine W_exit ?_ | refine W_reg T ?_ | refine ld1 ?_); (conv => whnf)))
        refine W_ret ⟨.inr rfl, .one (.p _ _ _ (.cons (.v _ _ (bad fun e => ?_)) .nil))⟩
        cases e
        simp at h2
      · have h2 : (!decide (a3 = b3)) = false := h2
        have h2 : a3 = b3 := by simpa using h2
        ((conv => whnf); repeat' ((first | refine W_seq ?_ | refine W_block ?_ | refine W_skip ?_ | refine W_exit ?_ | refine W_reg T ?_ | refine ld1 ?_); (conv => whnf)))
        refine .inl ⟨eqRsCon, (a4, b4), eqRatS_valid, ⟨ha.2, hb.2⟩, .cons (.same _ _) (.cons (.same _ _) .nil), ?_⟩
        ((conv => whnf); repeat' ((first | refine W_seq ?_ | refine W_block ?_ | refine W_skip ?_ | refine W_exit ?_ | refine W_reg T ?_ | refine ld1 ?_); (conv => whnf)))
        refine W_cond rfl (fun h3 => ?_) (fun h3 => ?_)
        · have h3 : (!decide (a4 = b4)) = true := h3
          ((conv => whnf); repeat' ((first | refine W_seq ?_ | refine W_block ?_ | refine W_skip ?_ | refine W_exit ?_ | refine W_reg T ?_ | refine ld1 ?_); (conv => whnf)))
          refine W_ret ⟨.inr rfl, .one (.p _ _ _ (.cons (.v _ _ (bad fun e => ?_)) .nil))⟩
          cases e
          simp at h3
        · have h3 : (!decide (a4 = b4)) = false := h3
          have h3 : a4 = b4 := by simpa using h3
          ((conv => whnf); repeat' ((first | refine W_seq ?_ | refine W_block ?_ | refine W_skip ?_ | refine W_exit ?_ | refine W_reg T ?_ | refine ld1 ?_); (conv => whnf)))
          refine W_ret ⟨.inr rfl, .one (.p _ _ _ (.cons (.v _ _ (yes ?_)) .nil))⟩
          show Aff.mk a1 a2 a3 a4 = Aff.mk b1 b2 b3 b4
          rw [h, h0, h2, h3]
def eqAsCon : Con := ⟨List Aff × List Aff, fun g => [(false, [netD g.1]), (false, [netD g.2])], fun g => MsOk g.1 ∧ MsOk g.2, fun _ g => bl (decide (g.1 = g.2)), true⟩
theorem eqAffineS_valid : Valid Tryd.prog 23 eqAsCon := by
  refine valid_intro (ts := [4]) eqAsCon Tryd.func23 rfl rfl rfl (by decide) (fun _ => Nat.le_of_ble_eq_true rfl) ?_
  rintro ⟨a, b⟩ ⟨(ha : MsOk a), (hb : MsOk b)⟩ nm nx
  have l1 : (a.map rowA).length = a.length := by simp
  have l2 : (b.map rowA).length = b.length := by simp
  have la := ha.1
  ((conv => whnf); repeat' ((first | refine W_seq ?_ | refine W_block ?_ | refine W_skip ?_ | refine W_exit ?_ | refine W_reg T ?_ | refine ld1 ?_); (conv => whnf)))
  refine W_cond rfl (fun h => ?_) (fun h => ?_)
  · have h : (((a.map rowA).length : Int) != ((b.map rowA).length : Int)) = true := h
    rw [l1, l2] at h
    ((conv => whnf); repeat' ((first | refine W_seq ?_ | refine W_block ?_ | refine W_skip ?_ | refine W_exit ?_ | refine W_reg T ?_ | refine ld1 ?_); (conv => whnf)))
    refine W_ret ⟨.inr rfl, .one (.p _ _ _ (.cons (.v _ _ (no fun e => ?_)) .nil))⟩
    have e : a = b := e
    subst e
    simp at h
  · have h : (((a.map rowA).length : Int) != ((b.map rowA).length : Int)) = false := h
    rw [l1, l2] at h
    have hl : a.length = b.length := by have := bne_eq_false_iff_eq.1 h; omega
    ((conv => whnf); repeat' ((first | refine W_seq ?_ | refine W_block ?_ | refine W_skip ?_ | refine W_exit ?_ | refine W_reg T ?_ | refine ld1 ?_); (conv => whnf)))
    refine W_loop (ι := Nat) (fun k => k ≤ a.length ∧ a.take k = b.take k) (fun k => ⟨[(0, .one (.p false [netD a])), (1, .one (.p false [netD b])), (5, int .i64 k)], [], 27, nx, 0⟩) (fun k => a.length - k) 0 ⟨Nat.zero_le _, by simp⟩ (by (refine St.le_mk ?_ ?_ ?_ ?_ ?_ ?_ ?_ <;> kernel_rfl)) ?_
    rintro k ⟨hk, he⟩
    ((conv => whnf); repeat' ((first | refine W_seq ?_ | refine W_block ?_ | refine W_skip ?_ | refine W_exit ?_ | refine W_reg T ?_ | refine ld1 ?_); (conv => whnf)))
    refine W_cond rfl (fun h => ?_) (fun h => ?_)
    · have h1 : k < a.length := by
        have : decide ((k : Int) < (a.map rowA).length) = true := h
        simpa using this
      have h2 : k < b.length := by omega
      have m1 : a.getD k default ∈ a := by simp [h1]
      have m2 : b.getD k default ∈ b := by simp [h2]
      ((conv => whnf); repeat' ((first | refine W_seq ?_ | refine W_block ?_ | refine W_skip ?_ | refine W_exit ?_ | refine W_reg T ?_ | refine ld1 ?_); (conv => whnf)))
      refine W_draw T 10 rfl (by kernel_rfl) ?_
      refine ⟨Int.natCast_nonneg k, by show (k : Int) < (a.map rowA).length; omega, _, rowMap a rowA _, ?_⟩
      refine ⟨Int.natCast_nonneg k, by show (k : Int) < (b.map rowA).length; omega, _, rowMap b rowA _, ?_⟩
      refine ⟨eqACon, (a.getD k default, b.getD k default), eqAffine_valid, ⟨ha.2 _ m1, hb.2 _ m2⟩, .cons (.same _ _) (.cons (.same _ _) .nil), ?_⟩
      ((conv => whnf); repeat' ((first | refine W_seq ?_ | refine W_block ?_ | refine W_skip ?_ | refine W_exit ?_ | refine W_reg T ?_ | refine ld1 ?_); (conv => whnf)))
      refine W_cond rfl (fun h3 => ?_) (fun h3 => ?_)
      · have h3 : (!decide (a.getD k default = b.getD k default)) = true := h3
        ((conv => whnf); repeat' ((first | refine W_seq ?_ | refine W_block ?_ | refine W_skip ?_ | refine W_exit ?_ | refine W_reg T ?_ | refine ld1 ?_); (conv => whnf)))
        refine W_ret ⟨.inr rfl, .one (.p _ _ _ (.cons (.v _ _ (no fun e => ?_)) .nil))⟩
        have e : a = b := e
        subst e
        simp at h3
      · have h3 : (!decide (a.getD k default = b.getD k default)) = false := h3
        have h4 : a.getD k default = b.getD k default := of_decide_eq_true (by rw [Bool.not_eq_false'] at h3; exact h3)
        ((conv => whnf); repeat' ((first | refine W_seq ?_ | refine W_block ?_ | refine W_skip ?_ | refine W_exit ?_ | refine W_reg T ?_ | refine ld1 ?_); (conv => whnf)))
        refine ⟨by omega, ?_⟩
        exact ⟨k + 1, ⟨h1, by rw [take_snoc a h1, take_snoc b h2, he, h4]⟩, by omega, by (refine St.le_mk ?_ ?_ ?_ ?_ ?_ ?_ ?_ <;> kernel_rfl)⟩
    · have h1 : k = a.length := by
        have : decide ((k : Int) < (a.map rowA).length) = false := h
        simp at this
        omega
      subst h1
      ((conv => whnf); repeat' ((first | refine W_seq ?_ | refine W_block ?_ | refine W_skip ?_ | refine W_exit ?_ | refine W_reg T ?_ | refine ld1 ?_); (conv => whnf)))
      refine W_ret ⟨.inr rfl, .one (.p _ _ _ (.cons (.v _ _ (yes ?_)) .nil))⟩
      show a = b
      rw [List.take_length, hl, List.take_length] at he
      exact he
def eqNCon : Con := ⟨List Aff × List Aff, fun g => [(true, [netD g.1]), (true, [netD g.2])], fun g => MsOk g.1 ∧ MsOk g.2, fun _ g => bl (decide (g.1 = g.2)), true⟩
theorem eqNet_valid : Valid Tryd.prog 8 eqNCon := by
  refine valid_intro (ts := [4]) eqNCon Tryd.func8 rfl rfl rfl (by decide) (fun _ => Nat.le_of_ble_eq_true rfl) ?_
  rintro ⟨a, b⟩ ⟨(ha : MsOk a), (hb : MsOk b)⟩ nm nx
  ((conv => whnf); repeat' ((first | refine W_seq ?_ | refine W_block ?_ | refine W_skip ?_ | refine W_exit ?_ | refine W_reg T ?_ | refine ld1 ?_); (conv => whnf)))
  refine .inl ⟨eqAsCon, (a, b), eqAffineS_valid, ⟨ha, hb⟩, .cons (.same _ _) (.cons (.same _ _) .nil), ?_⟩
  ((conv => whnf); repeat' ((first | refine W_seq ?_ | refine W_block ?_ | refine W_skip ?_ | refine W_exit ?_ | refine W_reg T ?_ | refine ld1 ?_); (conv => whnf)))
  refine W_cond rfl (fun h => ?_) (fun h => ?_)
  · have h : (!decide (a = b)) = true := h
    have h : ¬a = b := by simpa using h
    ((conv => whnf); repeat' ((first | refine W_seq ?_ | refine W_block ?_ | refine W_skip ?_ | refine W_exit ?_ | refine W_reg T ?_ | refine ld1 ?_); (conv => whnf)))
    exact W_ret ⟨.inr rfl, .one (.p _ _ _ (.cons (.v _ _ (no h)) .nil))⟩
  · have h : (!decide (a = b)) = false := h
    have h : a = b := by simpa using h
    ((conv => whnf); repeat' ((first | refine W_seq ?_ | refine W_block ?_ | refine W_skip ?_ | refine W_exit ?_ | refine W_reg T ?_ | refine ld1 ?_); (conv => whnf)))
    exact W_ret ⟨.inr rfl, .one (.p _ _ _ (.cons (.v _ _ (yes h)) .nil))⟩
end Go.Proofs.YthjjbfpcclojbaaDoor.Pv
end

section
/- A net's text is not longer than its size allows; the law FnExactNetText. No condition. -/
set_option linter.unusedVariables false
set_option linter.unusedSimpArgs false
namespace Go.Proofs.YthjjbfpcclojbaaDoor.Pv
open Go.RowKit
def totS {α : Type} (t : α → Nat) : List α → Nat
  | [] => 0
  | x :: r => t x + totS t r
def totR (r : RtD) : Nat := r.2.1.length + r.2.2.length
def totRs (l : List RtD) : Nat := l.length + totS totR l
def totA (m : Aff) : Nat := totRs m.W + totRs m.B
def totAs (l : List Aff) : Nat := l.length + totS totA l
theorem szN_eq {n : Nat} {a : Int} (ha : LeftOk a) (h : 0 ≤ szN n a) : szN n a = a - n := by
  unfold szN at h ⊢
  split at h
  · omega
  · rename_i h1; rw [if_neg h1]
theorem thenSz_eq {a : Int} {f : Int → Int} (h : 0 ≤ thenSz a f) : thenSz a f = f a := by
  unfold thenSz at h ⊢
  split at h
  · omega
  · rename_i h1; rw [if_neg h1]
theorem szS_eq {α : Type} {f : α → Int → Int} {t : α → Nat} (hf : ∀ x a, LeftOk a → SzOk (f x a)) (hg : ∀ x a, LeftOk a → 0 ≤ f x a → f x a = a - t x) : ∀ (l : List α) (a : Int), LeftOk a → 0 ≤ szS f l a → szS f l a = a - totS t l
  | [], a, ha, h => by simp [szS, totS]
  | y :: r, a, ha, h => by
    obtain ⟨h1, h2⟩ := thenSz_pos (f := szS f r) h
    have e1 := hg y a ha h1
    have e2 := szS_eq hf hg r _ ⟨h1, (hf y a ha).2⟩ h2
    show thenSz (f y a) (szS f r) = _
    rw [thenSz_eq h, e2, e1]
    simp only [totS]
    omega
theorem szR_eq (r : RtD) (a : Int) (ha : LeftOk a) (h : 0 ≤ szR r a) : szR r a = a - totR r := by
  obtain ⟨h1, h2⟩ := thenSz_pos h
  have e1 := szN_eq ha h1
  have e2 := szN_eq (n := r.2.2.length) ⟨h1, (szN_ok ha).2⟩ h2
  unfold szR at h ⊢
  rw [thenSz_eq h, e2, e1]
  unfold totR
  omega
theorem szRs_eq (l : List RtD) (a : Int) (ha : LeftOk a) (h : 0 ≤ szRs l a) : szRs l a = a - totRs l := by
  obtain ⟨h1, h2⟩ := thenSz_pos h
  have e1 := szN_eq ha h1
  have e2 := szS_eq szR_ok szR_eq l _ ⟨h1, (szN_ok ha).2⟩ h2
  unfold szRs at h ⊢
  rw [thenSz_eq h, e2, e1]
  unfold totRs
  omega
theorem szA_eq (m : Aff) (a : Int) (ha : LeftOk a) (h : 0 ≤ szA m a) : szA m a = a - totA m := by
  obtain ⟨h1, h2⟩ := thenSz_pos h
  have e1 := szRs_eq _ _ ha h1
  have e2 := szRs_eq m.B _ ⟨h1, (szRs_ok _ _ ha).2⟩ h2
  unfold szA at h ⊢
  rw [thenSz_eq h, e2, e1]
  unfold totA
  omega
theorem szAs_eq (l : List Aff) (a : Int) (ha : LeftOk a) (h : 0 ≤ szAs l a) : szAs l a = a - totAs l := by
  obtain ⟨h1, h2⟩ := thenSz_pos h
  have e1 := szN_eq ha h1
  have e2 := szS_eq szA_ok szA_eq l _ ⟨h1, (szN_ok ha).2⟩ h2
  unfold szAs at h ⊢
  rw [thenSz_eq h, e2, e1]
  unfold totAs
  omega
theorem dec_len {n k : Nat} (h : n < 10 ^ k) : (decT n).length ≤ k + 1 := by
  unfold decT bytesOf
  rw [List.length_map]
  exact Hand.decL_length_le h
theorem txt_len {g : RtD} (h : Rok g) (hk : rokF g = true) : (txt g).length ≤ 10 * totR g + 4 := by
  have e := repr_R h hk
  have e1 : g.2.1.length = (Hand.lim (ratQ g).num.natAbs).length := by
    rw [← ints_len]
    exact congrArg (fun r : Hand.Rt => r.num.length) e
  have e2 : g.2.2.length = (Hand.lim (ratQ g).den).length := by
    rw [← ints_len]
    exact congrArg (fun r : Hand.Rt => r.den.length) e
  have h1 := Hand.decL_length_le (Hand.lim_len_bound (Hand.limbs_lim (ratQ g).num.natAbs) rfl)
  have h2 := Hand.decL_length_le (Hand.lim_len_bound (Hand.limbs_lim (ratQ g).den) rfl)
  unfold txt bytesOf totR Hand.ratText
  rw [e1, e2]
  simp only [List.length_map, List.length_append]
  split <;> split <;> simp only [List.length_cons, List.length_nil] <;> omega
theorem tl_len : ∀ {v : List RtD}, (∀ g ∈ v, Rok g ∧ rokF g = true) → (tl v).length ≤ 10 * totRs v
  | [], _ => Nat.zero_le _
  | g :: v, h => by
    have h1 := txt_len (h g (by simp)).1 (h g (by simp)).2
    have h2 := tl_len (v := v) fun x hx => h x (by simp [hx])
    have e : tl (g :: v) = (32 :: txt g) ++ tl v := rfl
    rw [e, List.length_append, List.length_cons]
    unfold totRs at h2 ⊢
    simp only [totS, List.length_cons]
    omega
theorem tl_drop (v : List RtD) (k : Nat) : (tl (v.drop k)).length ≤ (tl v).length := by
  have : tl v = tl (v.take k) ++ tl (v.drop k) := by
    unfold tl
    rw [← List.flatten_append, ← List.map_append, List.take_append_drop]
  rw [this, List.length_append]
  omega
theorem rows_len (m : Aff) (n : Nat) : (rowsTx m n).length ≤ n * ((tl m.W).length + (tl m.B).length) := by
  induction n with
  | zero => exact Nat.zero_le _
  | succ n ih =>
    rw [rowsTx_succ, List.length_append, Nat.add_mul, Nat.one_mul]
    have h1 : (tl (wRow m n)).length ≤ (tl m.W).length := Nat.le_trans (tl_mono _ _) (tl_drop _ _)
    have h2 : (tl (bRow m n)).length ≤ (tl m.B).length := Nat.le_trans (tl_mono _ _) (tl_drop _ _)
    have h3 : (rowTx m n).length = (tl (wRow m n)).length + (tl (bRow m n)).length := by simp [rowTx]
    omega
def AOk (m : Aff) : Prop := (0 ≤ m.rows ∧ m.rows ≤ 20000) ∧ (0 ≤ m.cols ∧ m.cols ≤ 20000) ∧ (∀ g ∈ m.W, Rok g ∧ rokF g = true) ∧ ∀ g ∈ m.B, Rok g ∧ rokF g = true
theorem map_len {m : Aff} (h : AOk m) : (mapTx m).length ≤ 18 + 200000 * totA m := by
  obtain ⟨h1, h2, h3, h4⟩ := h
  have r := rows_len m m.rows.toNat
  have t1 := tl_len h3
  have t2 := tl_len h4
  have d1 := dec_len (n := m.rows.toNat) (k := 5) (by omega)
  have d2 := dec_len (n := m.cols.toNat) (k := 5) (by omega)
  have r2 : m.rows.toNat * ((tl m.W).length + (tl m.B).length) ≤ 20000 * (10 * totA m) := Nat.mul_le_mul (by omega) (by unfold totA; omega)
  unfold mapTx headTx
  simp only [List.length_append, List.length_cons, List.length_nil]
  omega
theorem maps_len : ∀ {l : List Aff}, (∀ m ∈ l, AOk m) → ((l.map mapTx).flatten).length ≤ 18 * l.length + 200000 * totS totA l
  | [], _ => Nat.zero_le _
  | m :: l, h => by
    have h1 := map_len (h m (by simp))
    have h2 := maps_len (l := l) fun x hx => h x (by simp [hx])
    simp only [List.map_cons, List.flatten_cons, List.length_append, List.length_cons, totS]
    omega
theorem net_len {ms : List Aff} (hm : MsOk ms) (hn : NOk ms) (hs : 0 ≤ szAs ms 1048576) : (netTx ms).length ≤ 1099511627776 := by
  have h1 := szAs_eq ms 1048576 ⟨by omega, by omega⟩ hs
  have h2 : ∀ m ∈ ms, AOk m := by
    intro m hmem
    obtain ⟨i, hi, rfl⟩ := List.getElem_of_mem hmem
    have hk := (hn.2.1 i hi).1
    have e : at_ ms i = ms[i] := by simp [at_, hi]
    rw [e] at hk
    obtain ⟨f1, f2, f3, f4, f5, f6, f7⟩ := mapOk_iff.1 hk
    have h3 := hm.2 _ hmem
    exact ⟨f1, f2, fun g hg => ⟨h3.1.2 g hg, List.all_eq_true.1 f6 g hg⟩, fun g hg => ⟨h3.2.2 g hg, List.all_eq_true.1 f7 g hg⟩⟩
  have h3 := maps_len h2
  have h4 := hn.1.2
  have d := dec_len (n := ms.length) (k := 5) (by omega)
  unfold totAs at h1
  unfold netTx outTx
  rw [List.take_length]
  simp only [List.length_append, List.length_cons, List.length_nil]
  omega
theorem ms_ok {ms : List Aff} (hr : ∀ m ∈ ms, RawA m) (hs : ShortAs ms) : MsOk ms := by
  have key : ∀ {l : List RtD}, (∀ r ∈ l, RawR r) → ShortRs l → LsOk l := fun h1 h2 => ⟨h2.1, fun r hr => ⟨⟨(h1 r hr).1, (h2.2 r hr).1⟩, (h1 r hr).2, (h2.2 r hr).2⟩⟩
  exact ⟨hs.1, fun m hm => ⟨key (hr m hm).1 (hs.2 m hm).1, key (hr m hm).2 (hs.2 m hm).2⟩⟩
def lawCon : Con := ⟨List Aff, fun ms => [(true, [netD ms])], fun ms => ShAs ms ∧ ∀ m ∈ ms, RawA m, fun _ _ => bl true, true⟩
set_option maxHeartbeats 4000000 in
theorem law_valid : Valid Tryd.prog 3 lawCon := by
  refine valid_intro (ts := [2]) lawCon Tryd.func3 rfl rfl rfl (by decide) (fun _ => Nat.le_of_ble_eq_true rfl) ?_
  rintro (ms : List Aff) (hp : ShAs ms ∧ ∀ m ∈ ms, RawA m) nm nx
  ((conv => whnf); repeat' ((first | refine W_seq ?_ | refine W_block ?_ | refine W_skip ?_ | refine W_exit ?_ | refine W_reg T ?_ | refine ld1 ?_); (conv => whnf)))
  refine .inl ⟨_, (ms, 1048576), szNet_valid, ⟨hp.1, by show (0:Int) ≤ 1048576; decide, by show (1048576:Int) ≤ 1048576; decide⟩, .cons (.same _ _) (.cons (.same _ _) .nil), ?_⟩
  ((conv => whnf); repeat' ((first | refine W_seq ?_ | refine W_block ?_ | refine W_skip ?_ | refine W_exit ?_ | refine W_reg T ?_ | refine ld1 ?_); (conv => whnf)))
  refine W_cond rfl (fun h => ?_) (fun h => ?_)
  · ((conv => whnf); repeat' ((first | refine W_seq ?_ | refine W_block ?_ | refine W_skip ?_ | refine W_exit ?_ | refine W_reg T ?_ | refine ld1 ?_); (conv => whnf)))
    exact W_ret ⟨.inr rfl, .one (.p _ _ _ (.cons (.v _ _ rfl) .nil))⟩
  · have h : decide (szAs ms 1048576 < 0) = false := h
    have hs : 0 ≤ szAs ms 1048576 := by simp at h; omega
    have hm := ms_ok hp.2 (szAs_pos ms 1048576 ⟨by omega, by omega⟩ hs)
    have hn : NOk ms → (netTx ms).length ≤ 1099511627776 := fun hk => net_len hm hk hs
    ((conv => whnf); repeat' ((first | refine W_seq ?_ | refine W_block ?_ | refine W_skip ?_ | refine W_exit ?_ | refine W_reg T ?_ | refine ld1 ?_); (conv => whnf)))
    refine .inl ⟨netsCon, ms, toNet_valid, hm, .cons (.same _ _) .nil, ?_⟩
    ((conv => whnf); repeat' ((first | refine W_seq ?_ | refine W_block ?_ | refine W_skip ?_ | refine W_exit ?_ | refine W_reg T ?_ | refine ld1 ?_); (conv => whnf)))
    refine .inl ⟨ntCon, ms, specNetText_valid, ⟨hm, hn⟩, .cons (.same _ _) .nil, ?_⟩
    ((conv => whnf); repeat' ((first | refine W_seq ?_ | refine W_block ?_ | refine W_skip ?_ | refine W_exit ?_ | refine W_reg T ?_ | refine ld1 ?_); (conv => whnf)))
    refine .inl ⟨netsCon, ms, toNet_valid, hm, .cons (.same _ _) .nil, ?_⟩
    ((conv => whnf); repeat' ((first | refine W_seq ?_ | refine W_block ?_ | refine W_skip ?_ | refine W_exit ?_ | refine W_reg T ?_ | refine ld1 ?_); (conv => whnf)))
    refine .inl ⟨ntCon, ms, netText_valid, ⟨hm, hn⟩, .cons (.same _ _) .nil, ?_⟩
    ((conv => whnf); repeat' ((first | refine W_seq ?_ | refine W_block ?_ | refine W_skip ?_ | refine W_exit ?_ | refine W_reg T ?_ | refine ld1 ?_); (conv => whnf)))
    refine W_cond rfl (fun h => ?_) (fun _ => ?_)
    · exact absurd h (by simp)
    · ((conv => whnf); repeat' ((first | refine W_seq ?_ | refine W_block ?_ | refine W_skip ?_ | refine W_exit ?_ | refine W_reg T ?_ | refine ld1 ?_); (conv => whnf)))
      refine W_draw T 5 rfl (by kernel_rfl) ?_
      ((conv => whnf); repeat' ((first | refine W_seq ?_ | refine W_block ?_ | refine W_skip ?_ | refine W_exit ?_ | refine W_reg T ?_ | refine ld1 ?_); (conv => whnf)))
      refine ⟨netsCon, ms, toNet_valid, hm, .cons (.same _ _) .nil, ?_⟩
      ((conv => whnf); repeat' ((first | refine W_seq ?_ | refine W_block ?_ | refine W_skip ?_ | refine W_exit ?_ | refine W_reg T ?_ | refine ld1 ?_); (conv => whnf)))
      refine ⟨eqNCon, (ms, ms), eqNet_valid, ⟨hm, hm⟩, .cons (.same _ _) (.cons (.same _ _) .nil), ?_⟩
      ((conv => whnf); repeat' ((first | refine W_seq ?_ | refine W_block ?_ | refine W_skip ?_ | refine W_exit ?_ | refine W_reg T ?_ | refine ld1 ?_); (conv => whnf)))
      refine W_cond rfl (fun h => ?_) (fun _ => ?_)
      · have h : (!decide (ms = ms)) = true := h
        simp at h
      · ((conv => whnf); repeat' ((first | refine W_seq ?_ | refine W_block ?_ | refine W_skip ?_ | refine W_exit ?_ | refine W_reg T ?_ | refine ld1 ?_); (conv => whnf)))
        exact W_ret ⟨.inr rfl, .one (.p _ _ _ (.cons (.v _ _ rfl) .nil))⟩
end Go.Proofs.YthjjbfpcclojbaaDoor.Pv
end

section
/- The law FnExactNetText as a row and as its card: whatever the input, it returns true and the input reads as it did. Conditions: those of the statement. -/
/- The law FnExactNetText as a row and as its card: whatever the input, it returns true and the input reads as it did. Conditions: those of the statement. -/
namespace Go.Proofs.YthjjbfpcclojbaaDoor.fnExactNetText
open Go Go.ChangeShapes Go.WideShapes Go.ChangeAt Go.RowKit
open Go.ChangeMaps (open_string shut_string)
set_option linter.unusedVariables false
theorem own : ownKnob Tryd.prog.godebug = none := by kernel_rfl
theorem laidOut : laidOutB Tryd.prog = true := by kernel_rfl
def laid3 : List (String × DataW Unit) := [("math/bits.deBruijn32tab", Rows.laid_math_bits_deBruijn32tab), ("math/bits.deBruijn64tab", Rows.laid_math_bits_deBruijn64tab), ("internal/strconv.uint64pow10", Rows.laid_internal_strconv_uint64pow10)]
theorem gPow : Tryd.prog.globalNamed "internal/strconv.uint64pow10" = some 1 := by kernel_rfl
theorem tPow : (Tryd.prog.globals[1]?).map (·.type) = some 122 := by kernel_rfl
theorem uArr : Tryd.prog.underlying 122 = some (.array 20 71) := by kernel_rfl
theorem uElt : Tryd.prog.underlying 71 = some (.int .u64) := by kernel_rfl
theorem powData : Rows.laid_internal_strconv_uint64pow10 (H := Unit) = Lib.tabData .u64 Lib.pow10Tab := by rfl
/-- The door's own heap meets the condition. -/
theorem door_met (os : Os) (args : Array Value) : laidMetH Tryd.prog laid3 ((World.doorLaid Tryd.prog 24 os).forCall (fun _ _ => 0) ⟨#[], args, []⟩).memory :=
  laidMetH_of_parts3 (fuel := 8) (laidMet_of_run' 8 (by kernel_rfl) (by kernel_rfl)) (by kernel_rfl) (by kernel_rfl)
theorem pow_of {W : World} (h : laidMetH Tryd.prog laid3 W) : Lib.TabIs Tryd.prog W "internal/strconv.uint64pow10" .u64 Lib.pow10Tab := by
  rw [MakeChecks.laidMetH_plain _ _ _ (by kernel_rfl)] at h
  obtain ⟨ps, ⟨_, _, _, _, _, _, _, _, _, _, ⟨_, _, _, _, _, _, _, _, _, _, ⟨g', t', cs, fuel, p, q, hg', ht', hvar, hd, _, _⟩, _⟩, _⟩, _, _⟩ := h
  obtain rfl := Option.some.inj (gPow.symm.trans hg')
  obtain rfl := Option.some.inj (tPow.symm.trans ht')
  unfold Lib.TabIs
  rw [hvar]
  rw [powData] at hd
  rw [← Lib.cells_of_tab uArr uElt (by kernel_rfl) (by kernel_rfl) hd]
theorem iv_of {W : World} (h : laidMetH Tryd.prog laid3 W) : Pv.Iv (Pv.mW W) := by
  have hv := pow_of h
  unfold Lib.TabIs World.var? at hv
  rw [gPow] at hv
  simp only [Option.bind_some] at hv
  split at hv
  · rename_i cs el fz he
    intro z hz
    obtain rfl : z = (1, (Lib.pow10Tab.map fun z => Value.int .u64 z).toArray) := by simpa [Pv.tabs] using hz
    exact ⟨(Array.getElem?_eq_some_iff.1 he).1, el, fz, he.trans (by rw [Option.some.inj hv])⟩
  · cases hv
set_option maxRecDepth 100000 in
theorem lifted (os : Os) (started : os.Started) (H : Type) (enc : TypeId × Value → H) :
    ReturnsInHanded {} Tryd.checked os 3 .any (fun w args => (Rows.fnExactNetTextSpec.pre enc Tryd.prog Tryd.f3 [] false w args ∧ laidMetH Tryd.prog laid3 w) ∧ sizedMet enc Tryd.prog Tryd.f3 (OpenSpec.ofChange Rows.fnExactNetTextSpec) false w args)
      (Rows.fnExactNetTextSpec.post enc Tryd.prog Tryd.f3 false true false false) := by
  refine returnsInHanded_of_change_and (C := Tryd.checked) (X := fun w _ => laidMetH Tryd.prog laid3 w) (fun _ _ _ hh h => h.of_heap hh) own started (by kernel_rfl) Tryd.func3
    (ChangeSpec.witness_shaped (enc := enc) (C := Tryd.checked) (os := os) (X := fun w _ => laidMetH Tryd.prog laid3 w) false (World.doorLaid Tryd.prog 24 os) #[.agg #[.slice none 0 0]] 8 rfl (World.shaped_of_RefB (by kernel_rfl) (by kernel_rfl)) (by kernel_rfl) (by kernel_rfl) (by kernel_rfl) (door_met os _)) ?_
  intro W base args ds gs before hval0 hW hcnd _ hL _
  have hval : ∀ (j : Nat) t v, Tryd.f3.params[j]? = some t → args[j]? = some v → Value.okWide Tryd.prog W .any base t v := hval0
  have hW' := hW
  obtain ⟨p, q, hA0, hV, rfl, hfz, hnd⟩ := hW
  have hA : DataW.TrodAll enc Tryd.prog W 0 (fun _ => true) true Tryd.f3.params.toList args.toList ds p := hA0
  rw [Tryd.params3] at hA hval
  obtain ⟨v0, vs0, d0, ds0, p0, q0, hargs, rfl, rfl, h0, r0⟩ := trodAll_cons hA
  obtain ⟨rfl, rfl, rfl⟩ := trodAll_nil r0
  obtain rfl : args = #[v0] := by cases args; simp_all
  obtain ⟨rfl, rfl⟩ := trodVars_none hV
  have k0 := h0
  have lt0 : ∀ x ∈ p0, x.block < W.heap.size := by obtain ⟨m, hm⟩ := k0; exact DataW.trod_lt m _ _ _ hm
  obtain ⟨ms, hrel, hms⟩ := Pv.arg_net (hval 0 24 v0 rfl rfl) h0
  clear hA0 hval0
  refine (Pv.law_valid.2 ms hms 0 W (fun k => k < W.heap.size) (fun _ => none) [v0] (fun _ h => h) (iv_of hL) hrel).mono fun e W' ⟨v, tk, he, bel, hr⟩ => ?_
  subst he
  obtain rfl : v = .bool true := Pv.bl_out hr
  exact ⟨_, rfl, _, _, _, [], _, [], hW', trodAll_mk1 (shut_bool Tryd.underlying4 _), (trodAll_cons_mk (Below.trod laidOut (by kernel_rfl) (of_decide_eq_true (by kernel_rfl)) k0 bel lt0) trodAll_mk0), rfl, bel.frame _, fun h => by cases h⟩
theorem proved : Rows.FnExactNetTextSaid :=
  OpenClaim.holds_of_wide 3 Tryd.f3 rfl rfl rfl rfl rfl rfl rfl ⟨rfl, rfl, rfl, rfl, rfl⟩ rfl rfl rfl rfl rfl (by kernel_rfl) Tryd.func3 (by kernel_rfl)
    (of_decide_eq_true (by kernel_rfl)) (by unfold Func.isWrapper; first | (rw [if_pos (by decide +kernel)]; kernel_rfl) | (rw [if_neg (by decide +kernel)]; exact ⟨rfl, rfl⟩))
    (fun os started H enc _ => lifted os started H enc)
end Go.Proofs.YthjjbfpcclojbaaDoor.fnExactNetText
namespace Go.Proofs.YthjjbfpcclojbaaDoor
open Go
/-- The tied card. -/
theorem fnExactNetText_holds : Rows.FnExactNetTextCardSaid :=
  Claim7.holds_tied_plain_at .later [] [.data, .data, .data] true (true, "7cccef1b9523e8dc32a108e761d90af743c7ea39b11d09bfd94d1a750f20ba8a") false
    fnExactNetText.proved (fun _ h => by cases h) (by kernel_rfl) (fun _ h => by cases h) fnExactNetText_row_tie rfl ⟨rfl, rfl⟩ (by kernel_rfl) rfl
    (fun f fn hf hfn => by
      obtain rfl : f = 3 := Option.some.inj ((show Tryd.prog.funcNamed "loop.example/s0015/laws.FnExactNetText" = some 3 by kernel_rfl).symm.trans hf) |>.symm
      obtain rfl : fn = Tryd.f3 := (Option.some.inj (Tryd.func3.symm.trans hfn)).symm
      exact ⟨by kernel_rfl, fun j t ht => by
        rw [Tryd.params3] at ht
        have hm : t ∈ [24] := by simpa using Array.mem_of_getElem? ht
        have hall : ([24].all fun u => !Tryd.prog.wantsStandIn u) = true := by kernel_rfl
        exact (show Tryd.prog.wantsStandIn t = false by simpa using List.all_eq_true.1 hall t hm)⟩)
    (by kernel_rfl)
#print axioms fnExactNetText_holds
end Go.Proofs.YthjjbfpcclojbaaDoor
end
