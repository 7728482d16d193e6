/- Texts of one proof, one behind the other: each tells what it proves. -/
import Derived.Test.YtlpckbleokoiiaaCNetOk1
import Derived.Test.YtlpckbleokoiiaaProg
import Derived.Laws.BitsAllLaws
import Derived.Lib.Hide
import Derived.Laws.Slices
import Derived.Lib.SmallJoins
import Derived.Deep.Slices
import Derived.Below
import Derived.Deep.Draws
import Derived.Deep.AppendLies
import Derived.Maps.AppendAt
import Derived.OwnWalk
import Derived.Laws.BytesArg
import Derived.Laws.MakeOwn
import Derived.Laws.OwnMore
import Derived.Deep.OwnRows
import Derived.Tactics
import Derived.Lib.ConvBytes
import Derived.WalkKit
import Derived.KernelRfl
import Derived.RowKit3
import Derived.Deep.LoopGhost
import Derived.Deep.QuietTactic
import Derived.BigQuiet
import Derived.WideLaws
import Derived.Deep.DeepCutAuto
import Derived.Deep.CutBlock
import Derived.Deep.RegionHeld3
import Derived.Laws.Rows
import Derived.Lib.AppendStr
import Derived.ArgAppend
import Derived.Laws.IdiomCopy
import Derived.OrdersHeld
import Derived.Laws.BitsLemmas
import Derived.RowKit
import Derived.Laws.StructEq

section
/- Naturals as lists of limbs: trimming, plain lists, product, comparison, shifts, and the laws' helpers for lists. The conditions stand with each part. -/
set_option linter.unusedVariables false
set_option linter.unusedSimpArgs false
namespace Go.Proofs.Ytlpckbleokoiiaa.Hand
open Go.RowKit Go.Proofs.YtlpckbleokoiiaaW.PrintWords Go.Proofs.YtlpckbleokoiiaaW.PrintLast Go.Proofs.YtlpckbleokoiiaaW.PrintMore
/-- Block g holds just the cells cs of type t. -/
def Blk (w : World) (g : Nat) (t : TypeId) (cs : Array Value) : Prop := w.heap[g]? = some (.cells cs t (0, 0))
section
variable {w w' : World} {g : Nat} {t : TypeId} {cs : Array Value}
theorem Blk.lt (h : Blk w g t cs) : g < w.heap.size := by
  rcases Nat.lt_or_ge g w.heap.size with hlt | hge
  · exact hlt
  · unfold Blk at h; rw [Array.getElem?_eq_none hge] at h; cases h
theorem Blk.cell (h : Blk w g t cs) (i : Nat) : w.cell? ⟨g, i, none⟩ = cs[i]? := cell_of_row w g i cs t (0, 0) h
theorem Blk.frozen (h : Blk w g t cs) (i : Nat) : w.frozen? ⟨g, i, none⟩ = false := by
  unfold Blk at h
  simp [World.frozen?, h]
theorem Blk.new (w : World) (t : TypeId) (cs : Array Value) : Blk (w.alloc (.cells cs t)) w.heap.size t cs := heap_alloc_new w _
theorem Blk.drew (h : Blk w g t cs) : Blk w.drew g t cs := h
theorem Blk.drewN (h : Blk w g t cs) (n : Nat) : Blk (w.drewN n) g t cs := h
theorem Blk.alloc (h : Blk w g t cs) (o : Obj) : Blk (w.alloc o) g t cs := (Below.heap_alloc w o g h.lt).trans h
theorem Blk.set_ (h : Blk w g t cs) (i : Nat) (u : Value) : Blk (w.setCell ⟨g, i, none⟩ u) g t (cs.setIfInBounds i u) := by
  unfold Blk at h ⊢
  simp [World.setCell, Array.getElem?_modify, h]
theorem Blk.far (h : Blk w g t cs) {p : Addr} (hp : g ≠ p.block) (u : Value) : Blk (w.setCell p u) g t cs := (Below.heap_setCell w p u g hp).trans h
theorem Blk.below {B : Nat} (h : Blk w g t cs) (hb : Below B w w') (hg : g < B) : Blk w' g t cs := (hb.block g hg).trans h
theorem Blk.grown {row : Option Nat} (h : Blk w g t cs) (hb : w.grownBy w' row) (hg : some g ≠ row) : Blk w' g t cs := (hb.block g h.lt hg).trans h
end
theorem grown_drewN {a w : World} {row : Option Nat} (h : a.grownBy w row) (n : Nat) : a.grownBy (w.drewN n) row := ⟨h.os, h.tape, h.output, h.size, h.block⟩
theorem grown_set {a w : World} {g : Nat} (h : a.grownBy w (some g)) {p : Addr} (hp : p.block = g ∨ a.heap.size ≤ p.block) (u : Value) : a.grownBy (w.setCell p u) (some g) :=
  ⟨h.os, h.tape, h.output, by simpa [World.setCell] using h.size, fun i hi hne => (Below.heap_setCell w p u i (by
    rintro rfl
    rcases hp with hp | hp
    · exact hne (by rw [hp])
    · omega)).trans (h.block i hi hne)⟩
/-- Cells that are read lie in no block of one cell that holds no whole number. -/
theorem reads_set {w : World} {k : IntKind} {A : Option Addr} {n : Nat} {xs : List Int} {g : Nat} {t : TypeId} {v : Value} (h : (Kd.int k).C w A n xs) (hb : Blk w g t #[v]) (hv : ∀ x, v ≠ .int k x) (u : Value) :
    (Kd.int k).C (w.setCell ⟨g, 0, none⟩ u) A n xs := by
  refine ⟨h.1, h.2.1, fun hn => ?_⟩
  obtain ⟨ad, e, hc⟩ := h.2.2 hn
  refine ⟨ad, e, fun j p hj => ?_⟩
  obtain ⟨c, hl, hK, hcell⟩ := hc j p hj
  refine ⟨c, hl, hK, fun i x hx => ?_⟩
  have h1 := hcell i x hx
  have hce : c = [.int k p] := hK
  have hxe : x = .int k p := by
    subst hce
    rcases i with _ | i
    · simpa using hx.symm
    · simp at hx
  by_cases he : ad.add (j * (Kd.int k).sz + i) = ⟨g, 0, none⟩
  · rw [he, hb.cell] at h1
    simp at h1
    exact absurd (h1.trans hxe) (hv p)
  · rw [World.cell?_setCell_other w _ _ _ (Ne.symm he)]; exact h1
/-- The number of limbs that stay when zeros at the end are dropped; only the first n are looked at. -/
def trimTo (l : List Int) : Nat → Nat
  | 0 => 0
  | n + 1 => if rd l (n : Int) = 0 then trimTo l n else n + 1
def trimN (l : List Int) : Nat := trimTo l l.length
theorem trimTo_le (l : List Int) : ∀ n, trimTo l n ≤ n
  | 0 => Nat.le_refl _
  | n + 1 => by
    unfold trimTo
    split
    · exact Nat.le_succ_of_le (trimTo_le l n)
    · exact Nat.le_refl _
theorem trimN_le (l : List Int) : trimN l ≤ l.length := trimTo_le l _
def trimL (l : List Int) : List Int := l.take (trimN l)
end Go.Proofs.Ytlpckbleokoiiaa.Hand
set_option linter.unusedVariables false
set_option linter.unusedSimpArgs false
namespace Go.Proofs.Ytlpckbleokoiiaa.Hand
open Go.RowKit Go.Proofs.YtlpckbleokoiiaaW.PrintWords Go.Proofs.YtlpckbleokoiiaaW.PrintLast Go.Proofs.YtlpckbleokoiiaaW.PrintMore
theorem infoU : (Try.prog.info? 73).map (fun i => (i.zero, i.size, i.bytes)) = some (some (.int .u32 0), 1, 4) := by kernel_rfl
set_option maxHeartbeats 1000000 in
theorem trim_calls (g : Nat) (A : Option Addr) (c : Nat) (l : List Int) (w : World) (hb : Blk w g 74 #[.slice A l.length c]) (hr : (Kd.int .u32).C w A l.length l) (hc : l.length ≤ c) :
    Calls Try.prog 116 #[.pointer (some ⟨g, 0, none⟩)] w fun e w' => e = .returned (.slice A (trimN l) c) ∧ w.grownBy w' (some g) ∧ Blk w' g 74 #[.slice A (trimN l) c] := by
  have HC := Aside0.mk hc
  have hlen : l.length ≤ 9223372036854775807 := hr.2.1
  have HR := Aside0.mk hr
  have HBl := Aside0.mk hb
  clear hb hr hc
  go_enter Try.func116, Try.ntmps116
  go_wp2
  go_loopg [] l.length (fun k w' => Aside0 (k ≤ l.length ∧ trimTo l k = trimN l) ∧ Aside0 ((Kd.int .u32).C w' A l.length l) ∧ Aside0 (w.grownBy w' (some g)) ∧ Aside0 (Blk w' g 74 #[.slice A k c]))
  case atStart => exact ⟨⟨Nat.le_refl _, rfl⟩, HR, ⟨World.grownBy.refl _ _⟩, HBl⟩
  case round =>
    clear HR HBl
    obtain ⟨HK, HR, HG, HBl⟩ := hrel
    obtain ⟨hk, ht⟩ := HK.out
    clear HK
    have HT := Aside0.mk ht
    clear ht
    have hcell : wr.cell? ⟨g, 0, none⟩ = some (.slice A gk c) := HBl.out.cell 0
    have hfro := HBl.out.frozen 0
    cases gk with
    | zero =>
      go_wp2
      go_quiet (fail)
      go_wp2
      go_ret
      exact ⟨by rw [← HT.out]; rfl, grown_drewN HG.out _, by rw [← HT.out]; exact HBl.out.drewN _⟩
    | succ k1 =>
      obtain ⟨ad, e1, hx⟩ := Kd.at_int HR.out (k1 : Int) (by omega) (by omega)
      subst e1
      have hk0 : decide ((0 : Int) < ((k1 + 1 : Nat) : Int)) = true := decide_eq_true (by omega)
      have hj : ((k1 + 1 : Nat) : Int) - 1 = (k1 : Int) := by omega
      have hw : IntKind.i64.wrap (k1 : Int) = (k1 : Int) := IntWalk.i64_in _ ⟨by omega, by omega⟩
      have hq : (k1 : Int) < (k1 : Int) + 1 := by omega
      have hkc : k1 ≤ c := by have := HC.out; omega
      rw [Int.toNat_natCast] at hx
      by_cases hz : rd l (k1 : Int) = 0
      · rw [hz] at hx
        go_wp2
        go_quiet (fail)
        go_wp2
        go_region
        all_goals
          go_wp2
          go_roundg k1
          case measure => omega
          case rel =>
            have ht : trimTo l k1 = trimN l := by
              rw [← HT.out]
              unfold trimTo
              rw [if_pos hz]
              cases k1 <;> rfl
            exact ⟨⟨by omega, ht⟩, ⟨reads_set (Kd.C_below HR.out (Drawn0.mk ⟨_, rfl⟩).below) (HBl.out.drewN _) (fun _ h => by cases h) _⟩, ⟨grown_set (grown_drewN HG.out _) (.inl rfl) _⟩, ⟨(HBl.out.drewN _).set_ 0 _⟩⟩
      · have hz1 : (rd l (k1 : Int) == 0) = false := by simpa using hz
        go_wp2
        go_quiet (fail)
        go_wp2
        go_ret
        have ht : k1 + 1 = trimN l := by
          rw [← HT.out]
          unfold trimTo
          rw [if_neg hz]
        exact ⟨by rw [← ht]; rfl, grown_drewN HG.out _, by rw [← ht]; exact HBl.out.drewN _⟩
end Go.Proofs.Ytlpckbleokoiiaa.Hand
set_option linter.unusedVariables false
set_option linter.unusedSimpArgs false
namespace Go.Proofs.Ytlpckbleokoiiaa.Hand
open Go.RowKit Go.Proofs.YtlpckbleokoiiaaW.PrintWords Go.Proofs.YtlpckbleokoiiaaW.PrintLast Go.Proofs.YtlpckbleokoiiaaW.PrintMore
/-- The plain list of a number below 2^64. -/
def small64 (x : Int) : List Int := trimL [x % 4294967296, x / 4294967296]
theorem trim_two (a b : Int) (w : World) :
    Calls Try.prog 116 #[.pointer (some ⟨w.heap.size + 1, 0, none⟩)] ((w.alloc (.cells #[.int .u32 a, .int .u32 b] 73)).alloc (.cells #[.slice (some ⟨w.heap.size, 0, none⟩) 2 2] 74))
      fun e w' => ∃ v, e = .returned v ∧ (Kd.int .u32).R 73 w' w.heap.size (fun _ => True) v (trimL [a, b]) ∧ Below w.heap.size w w' := by
  have HO := show (Kd.int .u32).R 73 (w.alloc (.cells #[.int .u32 a, .int .u32 b] 73)) w.heap.size (fun k => k = w.heap.size) (.slice (some ⟨w.heap.size, 0, none⟩) 2 2) [a, b] from
    Kd.R_of_own (own_lit w w.heap.size 73 .u32 [a, b] (Nat.le_refl _) (by simp)) (fun k hk => by simpa [Value.ownBlock] using hk.symm)
  have hs : (w.alloc (.cells #[.int .u32 a, .int .u32 b] 73)).heap.size = w.heap.size + 1 := by simp
  have hbx := Blk.new (w.alloc (.cells #[.int .u32 a, .int .u32 b] 73)) 74 #[.slice (some ⟨w.heap.size, 0, none⟩) 2 2]
  rw [hs] at hbx
  refine (trim_calls (w.heap.size + 1) (some ⟨w.heap.size, 0, none⟩) 2 [a, b] _ hbx (Kd.C_below (Kd.R_reads' HO).2.2 (below_alloc (Below.refl _ _) _)) (Nat.le_refl _)).mono ?_
  rintro e w' ⟨rfl, hg, hb⟩
  refine ⟨_, rfl, Kd.R_mono (Kd.R_take (m := trimN [a, b]) (Kd.R_grown (Kd.R_alloc HO _) hg (by rintro k rfl h; injection h with h; omega)) (trimN_le _)) (fun _ _ => trivial), ?_⟩
  exact pw_below_grown (below_alloc (below_alloc (Below.refl w.heap.size w) _) _) _ (by simp; omega) hg (by intro k hk; injection hk with hk; omega)
set_option maxHeartbeats 1000000 in
theorem small_calls (x : Int) (h0 : 0 ≤ x) (h1 : x < 18446744073709551616) (w : World) :
    Calls Try.prog 91 #[.int .u64 x] w fun e w' => ∃ v, e = .returned v ∧ (Kd.int .u32).R 73 w' w.heap.size (fun _ => True) v (small64 x) ∧ Below w.heap.size w w' := by
  go_enter Try.func91, Try.ntmps91
  go_wp2_with fail
  refine (trim_two _ _ w).mono ?_
  rintro e w' ⟨v, rfl, ho, hb⟩
  have HO := Aside0.mk ho
  have HB := Aside0.mk hb
  clear ho hb
  go_wp2
  go_ret
  exact ⟨_, rfl, HO.out, HB.out⟩
end Go.Proofs.Ytlpckbleokoiiaa.Hand
set_option linter.unusedVariables false
set_option linter.unusedSimpArgs false
namespace Go.Proofs.Ytlpckbleokoiiaa.Hand
open Go.RowKit Go.Proofs.YtlpckbleokoiiaaW.PrintWords
/-- What a list of limbs stands for. -/
def val : List Int → Nat
  | [] => 0
  | x :: xs => x.toNat + 4294967296 * val xs
/-- Each element is a limb. -/
def Limbs (l : List Int) : Prop := ∀ x ∈ l, 0 ≤ x ∧ x < 4294967296
/-- The plain list of a natural. -/
def lim (n : Nat) : List Int := if h : n = 0 then [] else ((n % 4294967296 : Nat) : Int) :: lim (n / 4294967296)
termination_by n
decreasing_by omega
/-- No zero limb at the end. -/
def Plain (l : List Int) : Prop := ∀ h : l ≠ [], l.getLast h ≠ 0
theorem lim_zero : lim 0 = [] := by rw [lim]; simp
theorem lim_pos {n : Nat} (h : n ≠ 0) : lim n = ((n % 4294967296 : Nat) : Int) :: lim (n / 4294967296) := by rw [lim]; simp [h]
theorem lim_nil_iff {n : Nat} : lim n = [] ↔ n = 0 := by
  constructor
  · intro h
    rcases Nat.eq_zero_or_pos n with h0 | h0
    · exact h0
    · rw [lim_pos (by omega)] at h; simp at h
  · rintro rfl; exact lim_zero
theorem val_lim (n : Nat) : val (lim n) = n := by
  induction n using Nat.strongRecOn with
  | _ n ih =>
    rcases Nat.eq_zero_or_pos n with h | h
    · subst h; rw [lim_zero]; rfl
    · rw [lim_pos (by omega), val, ih _ (by omega)]; omega
theorem limbs_lim (n : Nat) : Limbs (lim n) := by
  induction n using Nat.strongRecOn with
  | _ n ih =>
    rcases Nat.eq_zero_or_pos n with h | h
    · subst h; rw [lim_zero]; intro x hx; simp at hx
    · rw [lim_pos (by omega)]
      intro x hx
      rcases List.mem_cons.1 hx with rfl | hx
      · omega
      · exact ih _ (by omega) x hx
theorem Limbs.nil : Limbs [] := fun x hx => by simp at hx
theorem Limbs.tail {x : Int} {xs : List Int} (h : Limbs (x :: xs)) : Limbs xs := fun y hy => h y (List.mem_cons_of_mem _ hy)
theorem Limbs.head {x : Int} {xs : List Int} (h : Limbs (x :: xs)) : 0 ≤ x ∧ x < 4294967296 := h x List.mem_cons_self
theorem Limbs.cons {x : Int} {xs : List Int} (hx : 0 ≤ x ∧ x < 4294967296) (h : Limbs xs) : Limbs (x :: xs) := fun y hy => by
  rcases List.mem_cons.1 hy with rfl | hy
  · exact hx
  · exact h y hy
theorem Limbs.append {a b : List Int} (ha : Limbs a) (hb : Limbs b) : Limbs (a ++ b) := fun y hy => by
  rcases List.mem_append.1 hy with hy | hy
  · exact ha y hy
  · exact hb y hy
theorem Limbs.take {a : List Int} (ha : Limbs a) (n : Nat) : Limbs (a.take n) := fun y hy => ha y (List.mem_of_mem_take hy)
theorem Limbs.drop {a : List Int} (ha : Limbs a) (n : Nat) : Limbs (a.drop n) := fun y hy => ha y (List.mem_of_mem_drop hy)
theorem Limbs.set {a : List Int} (ha : Limbs a) (i : Nat) {x : Int} (hx : 0 ≤ x ∧ x < 4294967296) : Limbs (a.set i x) := fun y hy => by
  rcases List.mem_or_eq_of_mem_set hy with hy | rfl
  · exact ha y hy
  · exact hx
theorem limbs_rd {a : List Int} (ha : Limbs a) (i : Int) : 0 ≤ rd a i ∧ rd a i < 4294967296 := by
  unfold rd
  rw [List.getD_eq_getElem?_getD]
  rcases Nat.lt_or_ge i.toNat a.length with h | h
  · rw [List.getElem?_eq_getElem h]
    exact ha _ (List.getElem_mem h)
  · rw [List.getElem?_eq_none h]; simp
theorem Limbs.replicate (n : Nat) : Limbs (List.replicate n 0) := fun y hy => by
  have := List.eq_of_mem_replicate hy; omega
theorem val_replicate (n : Nat) : val (List.replicate n 0) = 0 := by
  induction n with
  | zero => rfl
  | succ n ih => rw [List.replicate_succ, val, ih]; rfl
theorem val_append (a b : List Int) : val (a ++ b) = val a + 4294967296 ^ a.length * val b := by
  induction a with
  | nil => simp [val]
  | cons x xs ih =>
    simp only [List.cons_append, val, List.length_cons, Nat.pow_succ, ih]
    rw [Nat.mul_add, Nat.mul_comm (4294967296 ^ xs.length) 4294967296, Nat.mul_assoc, Nat.add_assoc]
theorem val_lt {a : List Int} (h : Limbs a) : val a < 4294967296 ^ a.length := by
  induction a with
  | nil => simp [val]
  | cons x xs ih =>
    have h1 := ih h.tail
    have h2 := h.head
    rw [val, List.length_cons, Nat.pow_succ]
    have : val xs + 1 ≤ 4294967296 ^ xs.length := h1
    have h3 : (val xs + 1) * 4294967296 ≤ 4294967296 ^ xs.length * 4294967296 := Nat.mul_le_mul_right _ this
    omega
theorem rd_lt {a : List Int} {i : Nat} (h : i < a.length) : rd a (i : Int) = a[i] := by
  unfold rd
  rw [Int.toNat_natCast, List.getD_eq_getElem?_getD, List.getElem?_eq_getElem h]; rfl
theorem val_take_succ (a : List Int) (i : Nat) (h : i < a.length) : val (a.take (i + 1)) = val (a.take i) + (rd a (i : Int)).toNat * 4294967296 ^ i := by
  rw [List.take_succ_eq_append_getElem h, val_append, List.length_take, Nat.min_eq_left (Nat.le_of_lt h), rd_lt h]
  simp [val, Nat.mul_comm]
theorem val_drop (a : List Int) (i : Nat) (h : i < a.length) : val (a.drop i) = (rd a (i : Int)).toNat + 4294967296 * val (a.drop (i + 1)) := by
  rw [List.drop_eq_getElem_cons h, val, rd_lt h]
theorem val_split (a : List Int) (i : Nat) (h : i ≤ a.length) : val a = val (a.take i) + 4294967296 ^ i * val (a.drop i) := by
  have := val_append (a.take i) (a.drop i)
  rw [List.take_append_drop, List.length_take, Nat.min_eq_left h] at this
  exact this
theorem val_set (a : List Int) (i : Nat) (y : Int) (h : i < a.length) : val (a.set i y) + (rd a (i : Int)).toNat * 4294967296 ^ i = val a + y.toNat * 4294967296 ^ i := by
  induction a generalizing i with
  | nil => simp at h
  | cons x xs ih =>
    cases i with
    | zero => simp [val, rd]; omega
    | succ i =>
      have h' : i < xs.length := by simpa using h
      have := ih i h'
      rw [rd_lt h'] at this
      rw [rd_lt h]
      simp only [List.set_cons_succ, val, List.getElem_cons_succ, Nat.pow_succ]
      rw [← Nat.mul_assoc, ← Nat.mul_assoc]
      omega
theorem trimTo_val (l : List Int) : ∀ n, n ≤ l.length → val (l.take (trimTo l n)) = val (l.take n)
  | 0, _ => rfl
  | n + 1, h => by
    unfold trimTo
    split
    · rename_i hz
      rw [trimTo_val l n (by omega), val_take_succ l n (by omega), hz]
      simp
    · rfl
theorem val_trimL (l : List Int) : val (trimL l) = val l := by
  unfold trimL trimN
  rw [trimTo_val l _ (Nat.le_refl _), List.take_length]
theorem limbs_trimL {l : List Int} (h : Limbs l) : Limbs (trimL l) := h.take _
theorem trimTo_last (l : List Int) : ∀ n, n ≤ l.length → trimTo l n = 0 ∨ ∃ m, trimTo l n = m + 1 ∧ m < l.length ∧ rd l (m : Int) ≠ 0
  | 0, _ => .inl rfl
  | n + 1, h => by
    unfold trimTo
    split
    · exact trimTo_last l n (by omega)
    · rename_i hz
      exact .inr ⟨n, rfl, by omega, hz⟩
theorem plain_trimL (l : List Int) : Plain (trimL l) := by
  intro hne
  rcases trimTo_last l l.length (Nat.le_refl _) with h | ⟨m, h, hm, hz⟩
  · exfalso
    apply hne
    unfold trimL trimN
    rw [h]; rfl
  · have ht : trimL l = l.take m ++ [l[m]] := by
      unfold trimL trimN
      rw [h, List.take_succ_eq_append_getElem hm]
    have he := rd_lt hm
    simp only [ht, List.getLast_append, List.getLast_singleton]
    simp only [← he]
    simpa using hz
theorem Plain.tail {x : Int} {xs : List Int} (h : Plain (x :: xs)) : Plain xs := fun hne => by
  have := h (by simp)
  rwa [List.getLast_cons hne] at this
theorem val_pos_of_plain {l : List Int} (hl : Limbs l) (hp : Plain l) (hne : l ≠ []) : 0 < val l := by
  induction l with
  | nil => exact absurd rfl hne
  | cons x xs ih =>
    rw [val]
    rcases xs with _ | ⟨y, ys⟩
    · have h1 := hp (by simp)
      simp at h1
      have := hl.head
      omega
    · have := ih hl.tail hp.tail (by simp)
      omega
theorem lim_val {l : List Int} (hl : Limbs l) (hp : Plain l) : lim (val l) = l := by
  induction l with
  | nil => exact lim_zero
  | cons x xs ih =>
    have hpos := val_pos_of_plain hl hp (by simp)
    have h2 := hl.head
    rw [lim_pos (by omega), val]
    have e1 : (x.toNat + 4294967296 * val xs) % 4294967296 = x.toNat := by omega
    have e2 : (x.toNat + 4294967296 * val xs) / 4294967296 = val xs := by omega
    rw [e1, e2, ih hl.tail hp.tail]
    congr 1
    omega
theorem trimL_eq {l : List Int} (h : Limbs l) : trimL l = lim (val l) := by
  rw [← val_trimL l, lim_val (limbs_trimL h) (plain_trimL l)]
theorem plain_lim (n : Nat) : Plain (lim n) := by
  induction n using Nat.strongRecOn with
  | _ n ih =>
    rcases Nat.eq_zero_or_pos n with h | h
    · subst h; rw [lim_zero]; intro hne; exact absurd rfl hne
    · rw [lim_pos (by omega)]
      intro hne
      by_cases hd : n / 4294967296 = 0
      · simp only [hd, lim_zero, List.getLast_singleton]
        omega
      · have hn : lim (n / 4294967296) ≠ [] := fun h => hd (lim_nil_iff.1 h)
        rw [List.getLast_cons hn]
        exact ih _ (by omega) hn
theorem lim_length_le {n k : Nat} (h : n < 4294967296 ^ k) : (lim n).length ≤ k := by
  induction k generalizing n with
  | zero =>
    have : n = 0 := by simpa using h
    subst this; rw [lim_zero]; simp
  | succ k ih =>
    rcases Nat.eq_zero_or_pos n with h0 | h0
    · subst h0; rw [lim_zero]; simp
    · rw [lim_pos (by omega), List.length_cons]
      have := ih (n := n / 4294967296) (by
        rw [Nat.div_lt_iff_lt_mul (by omega)]
        rwa [Nat.pow_succ] at h)
      omega
theorem val_one (x : Int) : val [x] = x.toNat := by simp [val]
end Go.Proofs.Ytlpckbleokoiiaa.Hand
set_option linter.unusedVariables false
set_option linter.unusedSimpArgs false
namespace Go.Proofs.Ytlpckbleokoiiaa.Hand
open Go.RowKit Go.Proofs.YtlpckbleokoiiaaW.PrintWords
theorem limb_prod {x y : Int} (hx : 0 ≤ x ∧ x < 4294967296) (hy : 0 ≤ y ∧ y < 4294967296) : 0 ≤ x * y ∧ x * y ≤ 18446744065119617025 := by
  refine ⟨Int.mul_nonneg hx.1 hy.1, ?_⟩
  have h1 : x * y ≤ 4294967295 * y := Int.mul_le_mul_of_nonneg_right (by omega) hy.1
  omega
theorem rd_set_ne {o : List Int} {i k : Nat} (v : Int) (h : i ≠ k) : rd (o.set i v) (k : Int) = rd o (k : Int) := by
  unfold rd
  rw [Int.toNat_natCast, List.getD_eq_getElem?_getD, List.getD_eq_getElem?_getD, List.getElem?_set_ne h]
theorem rd_set_eq {o : List Int} {i : Nat} (v : Int) (h : i < o.length) : rd (o.set i v) (i : Int) = v := by
  unfold rd
  rw [Int.toNat_natCast, List.getD_eq_getElem?_getD, List.getElem?_set_self h]; rfl
theorem or_join (a b : Int) (ha : 0 ≤ a ∧ a < 4294967296) (hb : 0 ≤ b ∧ b < 4294967296) : Go.bits .or .u64 (b * 4294967296) a = a + 4294967296 * b := by
  rw [u64_or _ _ (by omega) (by omega) (by omega) (by omega), nat_join 32 _ _ (by omega) (by omega)]
  omega
theorem small64_eq {x : Int} (h0 : 0 ≤ x) (h1 : x < 18446744073709551616) : small64 x = lim x.toNat := by
  have hl : Limbs [x % 4294967296, x / 4294967296] := Limbs.cons (by omega) (Limbs.cons (by omega) Limbs.nil)
  unfold small64
  rw [trimL_eq hl]
  congr 1
  simp [val]
  omega
end Go.Proofs.Ytlpckbleokoiiaa.Hand
set_option linter.unusedVariables false
set_option linter.unusedSimpArgs false
namespace Go.Proofs.Ytlpckbleokoiiaa.Hand
open Go.RowKit Go.Proofs.YtlpckbleokoiiaaW.PrintWords Go.Proofs.YtlpckbleokoiiaaW.PrintLast Go.Proofs.YtlpckbleokoiiaaW.PrintMore
/-- The method small on a list of at most two limbs, or more: its value as one number, and whether it fits. -/
def smallV (l : List Int) : Int := if l.length ≤ 2 then (val l : Int) else 0
theorem small_at (A : Option Addr) (c : Nat) (l : List Int) (w : World) (hr : (Kd.int .u32).C w A l.length l) (hl : Limbs l) :
    Calls Try.prog 90 #[.slice A l.length c] w fun e w' => e = .returned (.tuple #[.int .u64 (smallV l), .bool (decide (l.length ≤ 2))]) ∧ Drawn0 w w' := by
  rcases l with _ | ⟨a, _ | ⟨b, _ | ⟨d, l⟩⟩⟩
  · go_enter Try.func90, Try.ntmps90
    go_wp2
    go_ret2
    exact ⟨by simp [smallV, val], Drawn0.refl _⟩
  · obtain ⟨ad, rfl, hx⟩ := Kd.at_int hr 0 (by omega) (by simp)
    have ha := hl.head
    have hrd : rd [a] 0 = a := rfl
    rw [hrd, show ((0 : Int)).toNat = 0 from rfl, Addr.add_zero'] at hx
    clear hr hrd
    go_enter Try.func90, Try.ntmps90
    go_wp2
    go_ret2
    exact ⟨by simp [smallV, val]; omega, Drawn0.refl _⟩
  · obtain ⟨ad, rfl, hx⟩ := Kd.at_int hr 0 (by omega) (by simp)
    obtain ⟨ad', h', hy⟩ := Kd.at_int hr 1 (by omega) (by simp)
    cases h'
    have ha := hl.head
    have hb := hl.tail.head
    have hrd : rd [a, b] 0 = a := rfl
    have hrd1 : rd [a, b] 1 = b := rfl
    rw [hrd, show ((0 : Int)).toNat = 0 from rfl, Addr.add_zero'] at hx
    rw [hrd1] at hy
    simp only [show (1 : Int).toNat = 1 from rfl, Nat.reduceEqDiff, Go.Addr.add, ↓reduceIte] at hy
    clear hr hrd hrd1
    go_enter Try.func90, Try.ntmps90
    go_wp2
    go_quiet (fail)
    go_wp2
    go_ret2
    have hj := or_join a b ha hb
    have hv : smallV [a, b] = a + 4294967296 * b := by simp [smallV, val]; omega
    rw [← hj] at hv
    exact ⟨by rw [hv]; rfl, (Drawn0.refl _).step _⟩
  · have h3 : ((l.length + 1 + 1 + 1 : Nat) : Int) = l.length + 3 := by omega
    have e0 : (((l.length : Int) + 3) == 0) = false := by rw [beq_eq_false_iff_ne]; omega
    have e1 : (((l.length : Int) + 3) == 1) = false := by rw [beq_eq_false_iff_ne]; omega
    have e2 : (((l.length : Int) + 3) == 2) = false := by rw [beq_eq_false_iff_ne]; omega
    clear hr
    go_enter Try.func90, Try.ntmps90
    go_wp2
    go_ret2
    exact ⟨by simp [smallV], Drawn0.refl _⟩
end Go.Proofs.Ytlpckbleokoiiaa.Hand
set_option linter.unusedVariables false
set_option linter.unusedSimpArgs false
namespace Go.Proofs.Ytlpckbleokoiiaa.Hand
open Go.RowKit Go.Proofs.YtlpckbleokoiiaaW.PrintWords Go.Proofs.YtlpckbleokoiiaaW.PrintLast Go.Proofs.YtlpckbleokoiiaaW.PrintMore
/-- Limbs as a test. -/
def limbsB (l : List Int) : Bool := l.all fun x => decide (0 ≤ x ∧ x < 4294967296)
theorem limbsB_iff {l : List Int} : limbsB l = true ↔ Limbs l := by
  unfold limbsB Limbs
  rw [List.all_eq_true]
  exact ⟨fun h x hx => of_decide_eq_true (h x hx), fun h x hx => decide_eq_true (h x hx)⟩
/-- A list that a function of naturals takes. -/
def natB (l : List Int) : Bool := limbsB l && decide (l.length ≤ 1099511627776)
end Go.Proofs.Ytlpckbleokoiiaa.Hand
namespace Go.Proofs.Ytlpckbleokoiiaa.Ext
open Go.RowKit Go.Proofs.YtlpckbleokoiiaaW.PrintWords Go.Proofs.YtlpckbleokoiiaaW.PrintLast Go.Proofs.YtlpckbleokoiiaaW.PrintMore Go.Proofs.Ytlpckbleokoiiaa.Hand
def impl_NatMul.f (l0 l1 : List Int) : Option (List Int) := if natB l0 && natB l1 then some (lim (val l0 * val l1)) else none
end Go.Proofs.Ytlpckbleokoiiaa.Ext
set_option linter.unusedVariables false
set_option linter.unusedSimpArgs false
namespace Go.Proofs.Ytlpckbleokoiiaa.Hand
open Go.RowKit Go.Proofs.YtlpckbleokoiiaaW.PrintWords Go.Proofs.YtlpckbleokoiiaaW.PrintLast Go.Proofs.YtlpckbleokoiiaaW.PrintMore
theorem quiet_add_same {P : Program} {f : FuncId} {args : Array Value} {w : World} {a n : Nat} {v : Value}
    (h : Calls P f args (w.drewN (a + n)) fun e w' => e = .returned v ∧ w' = w.drewN (a + n)) :
    Calls P f args (w.drewN (a + n)) fun e w'' => e = .returned v ∧ ∃ m, w'' = w.drewN (a + m) :=
  h.mono fun _ _ ⟨he, hm⟩ => ⟨he, n, hm⟩
/-- -1, 0 or 1 as a is below, at or above b. -/
def cmpI (a b : Int) : Int := if a < b then -1 else if a = b then 0 else 1
def cmpN (a b : Nat) : Int := if a < b then -1 else if a = b then 0 else 1
theorem cmpI_lt {a b : Int} (h : a < b) : cmpI a b = -1 := by unfold cmpI; rw [if_pos h]
theorem cmpI_gt {a b : Int} (h : b < a) : cmpI a b = 1 := by unfold cmpI; rw [if_neg (by omega), if_neg (by omega)]
theorem cmpN_lt {a b : Nat} (h : a < b) : cmpN a b = -1 := by unfold cmpN; rw [if_pos h]
theorem cmpN_gt {a b : Nat} (h : b < a) : cmpN a b = 1 := by unfold cmpN; rw [if_neg (by omega), if_neg (by omega)]
theorem cmpN_eq {a b : Nat} (h : a = b) : cmpN a b = 0 := by unfold cmpN; rw [if_neg (by omega), if_pos h]
theorem pow_le_val {l : List Int} (hl : Limbs l) (hp : Plain l) (hne : l ≠ []) : 4294967296 ^ (l.length - 1) ≤ val l := by
  induction l with
  | nil => exact absurd rfl hne
  | cons x xs ih =>
    rcases xs with _ | ⟨y, ys⟩
    · have := val_pos_of_plain hl hp hne
      have : 1 ≤ val [x] := this
      simpa using this
    · have := ih hl.tail hp.tail (by simp)
      rw [val, List.length_cons, List.length_cons]
      rw [List.length_cons] at this
      have e : ys.length + 1 + 1 - 1 = (ys.length + 1 - 1) + 1 := by omega
      rw [e, Nat.pow_succ]
      omega
theorem val_lt_of_length {l l' : List Int} (hl : Limbs l) (hl' : Limbs l') (hp' : Plain l') (h : l.length < l'.length) : val l < val l' := by
  have h1 := val_lt hl
  have h2 := pow_le_val hl' hp' (by intro e; subst e; simp at h)
  have h3 : 4294967296 ^ l.length ≤ 4294967296 ^ (l'.length - 1) := Nat.pow_le_pow_right (by omega) (by omega)
  omega
theorem val_lt_of_top {l l' : List Int} {i : Nat} (hl : Limbs l) (hl' : Limbs l') (hi : i < l.length) (he : l.length = l'.length) (hd : l.drop (i + 1) = l'.drop (i + 1)) (h : rd l (i : Int) < rd l' (i : Int)) : val l < val l' := by
  have a1 := val_split l (i + 1) hi
  have a2 := val_split l' (i + 1) (by omega)
  have b1 := val_take_succ l i hi
  have b2 := val_take_succ l' i (by omega)
  have c1 := val_lt (hl.take i)
  have r1 := limbs_rd hl (i : Int)
  have r2 := limbs_rd hl' (i : Int)
  rw [List.length_take, Nat.min_eq_left (by omega)] at c1
  rw [hd] at a1
  have d1 : ((rd l (i : Int)).toNat + 1) * 4294967296 ^ i ≤ (rd l' (i : Int)).toNat * 4294967296 ^ i := Nat.mul_le_mul_right _ (by omega)
  rw [Nat.add_mul] at d1
  omega
theorem cmpInt_calls (a b : Int) (w : World) :
    Calls Try.prog 93 #[.int .i64 a, .int .i64 b] w fun e w' => e = .returned (.int .i64 (cmpI a b)) ∧ w = w' := by
  have hn : ∀ (x : Int) (W : World), Calls Try.prog 120 #[.int .i64 x] W fun e w' => e = .returned (.bool false) ∧ W = w' := by
    intro x W
    go_enter Try.func120, Try.ntmps120
    go_wp2
    go_ret
    exact ⟨rfl, rfl⟩
  have H := Lib.hid hn
  clear hn
  go_enter Try.func93, Try.ntmps93
  go_wp2_with fail
  refine (H.out _ _).mono ?_
  rintro e w1 ⟨rfl, rfl⟩
  go_wp2_with fail
  refine (H.out _ _).mono ?_
  rintro e w1 ⟨rfl, rfl⟩
  by_cases h1 : a < b
  · go_wp2
    go_ret
    exact ⟨by rw [cmpI_lt h1]; rfl, rfl⟩
  · by_cases h2 : b < a
    · go_wp2
      go_ret
      exact ⟨by rw [cmpI_gt h2]; rfl, rfl⟩
    · go_wp2
      go_ret
      have : cmpI a b = 0 := by unfold cmpI; rw [if_neg (by omega), if_pos (by omega)]
      exact ⟨by rw [this]; rfl, rfl⟩
theorem cmpU32_calls (a b : Int) (w : World) :
    Calls Try.prog 115 #[.int .u32 a, .int .u32 b] w fun e w' => e = .returned (.int .i64 (cmpI a b)) ∧ w = w' := by
  have hn : ∀ (x : Int) (W : World), Calls Try.prog 126 #[.int .u32 x] W fun e w' => e = .returned (.bool false) ∧ W = w' := by
    intro x W
    go_enter Try.func126, Try.ntmps126
    go_wp2
    go_ret
    exact ⟨rfl, rfl⟩
  have H := Lib.hid hn
  clear hn
  go_enter Try.func115, Try.ntmps115
  go_wp2_with fail
  refine (H.out _ _).mono ?_
  rintro e w1 ⟨rfl, rfl⟩
  go_wp2_with fail
  refine (H.out _ _).mono ?_
  rintro e w1 ⟨rfl, rfl⟩
  by_cases h1 : a < b
  · go_wp2
    go_ret
    exact ⟨by rw [cmpI_lt h1]; rfl, rfl⟩
  · by_cases h2 : b < a
    · go_wp2
      go_ret
      exact ⟨by rw [cmpI_gt h2]; rfl, rfl⟩
    · go_wp2
      go_ret
      have : cmpI a b = 0 := by unfold cmpI; rw [if_neg (by omega), if_pos (by omega)]
      exact ⟨by rw [this]; rfl, rfl⟩
set_option maxHeartbeats 2000000 in
theorem cmp_calls (A A' : Option Addr) (c c' : Nat) (l l' : List Int) (w : World) (hr : (Kd.int .u32).C w A l.length l) (hr' : (Kd.int .u32).C w A' l'.length l') (hl : Limbs l) (hl' : Limbs l') (hp : Plain l) (hp' : Plain l') :
    Calls Try.prog 84 #[.slice A l.length c, .slice A' l'.length c'] w fun e w' => e = .returned (.int .i64 (cmpN (val l) (val l'))) ∧ Drawn0 w w' := by
  have HR := Aside0.mk hr
  have HR' := Aside0.mk hr'
  have HL := Aside0.mk hl
  have HL' := Aside0.mk hl'
  have hlen : l.length ≤ 9223372036854775807 := hr.2.1
  clear hr hr' hl hl'
  by_cases hne : l.length = l'.length
  · have HE := Aside0.mk hne
    have hb1 : (l.length != l'.length) = false := by simp [hne]
    have hb2 : ((l.length : Int) != (l'.length : Int)) = false := by simp [hne]
    clear hne hp hp'
    go_enter Try.func84, Try.ntmps84
    go_wp2
    go_loopg [5] l.length (fun k v5 w' => v5 = .int .i64 ((k : Int) - 1) ∧ Aside0 (k ≤ l.length) ∧ Aside0 (l.drop k = l'.drop k) ∧ Aside0 (Drawn0 w w'))
    case atStart => exact ⟨rfl, ⟨Nat.le_refl _⟩, ⟨by rw [List.drop_length, HE.out, List.drop_length]⟩, ⟨Drawn0.refl _⟩⟩
    case round =>
      obtain ⟨rfl, HK, HD, HW⟩ := hrel
      cases gk with
      | zero =>
        go_wp2
        go_ret
        have hd := HD.out
        rw [List.drop_zero, List.drop_zero] at hd
        exact ⟨by rw [cmpN_eq (by rw [hd])]; rfl, HW.out⟩
      | succ k1 =>
        have hk := HK.out
        rw [show ((k1 + 1 : Nat) : Int) - 1 = (k1 : Int) from by omega]
        obtain ⟨ad, e1, hx⟩ := Kd.at_int HR.out (k1 : Int) (by omega) (by omega)
        subst e1
        obtain ⟨ad', e2, hy⟩ := Kd.at_int HR'.out (k1 : Int) (by omega) (by have := HE.out; omega)
        subst e2
        rw [Int.toNat_natCast] at hx hy
        replace hx := (HW.out.below.cell (World.block_lt_of_cell? w _ hx)).trans hx
        replace hy := (HW.out.below.cell (World.block_lt_of_cell? w _ hy)).trans hy
        have q1 : (k1 : Int) < (l.length : Int) := by omega
        have q2 : (k1 : Int) < (l'.length : Int) := by have := HE.out; omega
        by_cases hxy : rd l (k1 : Int) = rd l' (k1 : Int)
        · have hb3 : (rd l (k1 : Int) != rd l' (k1 : Int)) = false := by rw [bne_eq_false_iff_eq]; exact hxy
          have HXY := Aside0.mk hxy
          clear hxy
          go_wp2
          go_quiet (fail)
          go_wp2
          go_roundg k1
          case measure => omega
          case rel =>
            refine ⟨by go_num, ⟨by omega⟩, ⟨?_⟩, ⟨HW.out.step _⟩⟩
            have h1 : k1 < l.length := by omega
            have h2 : k1 < l'.length := by have := HE.out; omega
            rw [List.drop_eq_getElem_cons h1, List.drop_eq_getElem_cons h2, HD.out, ← rd_lt h1, ← rd_lt h2, HXY.out]
        · have hb3 : (rd l (k1 : Int) != rd l' (k1 : Int)) = true := by rw [bne_iff_ne]; exact hxy
          have HXY := Aside0.mk hxy
          clear hxy
          go_wp2
          go_quiet (fail)
          go_wp2
          go_quiet ((go_at_call 115; exact quiet_add_same ((cmpU32_calls _ _ _).mono fun _ _ h => ⟨h.1, h.2.symm⟩)))
          go_wp2
          go_ret
          have he : cmpI (rd l (k1 : Int)) (rd l' (k1 : Int)) = cmpN (val l) (val l') := by
            rcases Int.lt_or_gt_of_ne HXY.out with h | h
            · rw [cmpI_lt h, cmpN_lt (val_lt_of_top HL.out HL'.out (by omega) HE.out HD.out h)]
            · rw [cmpI_gt h, cmpN_gt (val_lt_of_top HL'.out HL.out (by have := HE.out; omega) HE.out.symm HD.out.symm h)]
          rw [← he]
          exact ⟨rfl, (HW.out.step _).step _⟩
  · have hb1 : (l.length != l'.length) = true := by simpa using hne
    have hb2 : ((l.length : Int) != (l'.length : Int)) = true := by rw [bne_iff_ne]; omega
    have he : cmpI (l.length : Int) (l'.length : Int) = cmpN (val l) (val l') := by
      rcases Nat.lt_or_gt_of_ne hne with h | h
      · rw [cmpI_lt (by omega), cmpN_lt (val_lt_of_length HL.out HL'.out hp' h)]
      · rw [cmpI_gt (by omega), cmpN_gt (val_lt_of_length HL'.out HL.out hp h)]
    have HE := Aside0.mk he
    clear he hne hp hp'
    go_enter Try.func84, Try.ntmps84
    go_wp2_with fail
    refine (cmpInt_calls _ _ _).mono ?_
    rintro e w1 ⟨rfl, rfl⟩
    rw [HE.out]
    go_wp2
    go_ret
    exact ⟨rfl, Drawn0.refl _⟩
theorem copy_calls (A : Option Addr) (c : Nat) (l : List Int) (w : World) (hr : (Kd.int .u32).C w A l.length l) (hn : l.length ≤ 8796093022208) :
    Calls Try.prog 85 #[.slice A l.length c] w fun e w' => ∃ v, e = .returned v ∧ (Kd.int .u32).R 73 w' w.heap.size (fun _ => True) v l ∧ Below w.heap.size w w' := by
  have HR := Aside0.mk hr
  clear hr
  have hO := Aside0.mk (show (Kd.int .u32).R 73 (w.alloc (.cells #[] 73)) w.heap.size (fun _ => True) (.slice (some ⟨w.heap.size, 0, none⟩) 0 0) [] from
    Kd.R_of_own (own_lit w w.heap.size 73 .u32 [] (Nat.le_refl _) (by simp)) (fun k hk => trivial))
  go_enter Try.func85, Try.ntmps85
  go_wp2_with ((at_builtin; refine Kd.R_append_rows (Kd.int .u32) (w0 := w) w.heap.size rfl (.tmp 3) (.tmp 4) 74 73 (.int .u32 0) 4 rfl Try.underlying74 infoU rfl (by decide) (by omega) _ [] l A l.length c (fun _ => True) (fun _ => False) rfl rfl hO.out (Kd.C_below HR.out (below_alloc (Below.refl _ _) _)) (fun _ _ h => h) (fun _ h => h.elim) (fun _ _ => trivial) (below_alloc (Below.refl _ _) _) (by simp) (by simp; omega) ?_; intro v1 w1 ho hb hg hat; have HO := Aside0.mk ho; have HB := Aside0.mk hb; clear ho hb hg hat))
  go_ret
  exact ⟨_, rfl, HO.out, HB.out⟩
end Go.Proofs.Ytlpckbleokoiiaa.Hand
set_option linter.unusedVariables false
set_option linter.unusedSimpArgs false
namespace Go.Proofs.Ytlpckbleokoiiaa.Hand
open Go.RowKit Go.Proofs.YtlpckbleokoiiaaW.PrintWords Go.Proofs.YtlpckbleokoiiaaW.PrintLast Go.Proofs.YtlpckbleokoiiaaW.PrintMore
/-- From limb k on the list o holds the quotient, the rest is r; below k the limbs are those of l. -/
def ShrinkIn (d : Int) (l : List Int) (k : Nat) (r : Int) (o : List Int) : Prop :=
  o.length = l.length ∧ Limbs o ∧ (∀ j : Nat, j < k → rd o (j : Int) = rd l (j : Int)) ∧ 0 ≤ r ∧ r < d ∧ val (l.drop k) = d.toNat * val (o.drop k) + r.toNat
theorem shrinkIn_start {d : Int} {l : List Int} (hd : 0 < d) (hl : Limbs l) : ShrinkIn d l l.length 0 l :=
  ⟨rfl, hl, fun _ _ => rfl, by omega, hd, by rw [List.drop_length]; simp [val]⟩
theorem drop_set_self (o : List Int) (k : Nat) (x : Int) (h : k < o.length) : (o.set k x).drop k = x :: o.drop (k + 1) := by
  rw [List.drop_eq_getElem_cons (by rw [List.length_set]; exact h), List.getElem_set_self, List.drop_set_of_lt (by omega)]
theorem shrinkIn_step {d r t q : Int} {l o : List Int} {k : Nat} (hd : 0 < d ∧ d < 4294967296) (hl : Limbs l) (hk : k < l.length) (h : ShrinkIn d l (k + 1) r o) (ht : t = rd o (k : Int) + 4294967296 * r) (hq : q = t / d) :
    0 ≤ q ∧ q < 4294967296 ∧ ShrinkIn d l k (t % d) (o.set k q) := by
  obtain ⟨h1, h2, h3, h4, h5, h6⟩ := h
  have hx := limbs_rd hl (k : Int)
  have he := h3 k (by omega)
  rw [he] at ht
  have ht0 : 0 ≤ t := by omega
  have hq0 : 0 ≤ q := by rw [hq]; exact Int.ediv_nonneg ht0 (by omega)
  have hq1 : q < 4294967296 := by
    rw [hq]
    apply Int.ediv_lt_of_lt_mul hd.1
    omega
  refine ⟨hq0, hq1, by rw [List.length_set]; exact h1, h2.set _ ⟨hq0, hq1⟩, fun j hj => ?_, Int.emod_nonneg _ (by omega), Int.emod_lt_of_pos _ hd.1, ?_⟩
  · rw [rd_set_ne _ (by omega)]
    exact h3 j (by omega)
  · rw [drop_set_self _ _ _ (by omega), val, val_drop l k hk, h6]
    have e1 : t.toNat = d.toNat * q.toNat + (t % d).toNat := by
      have h7 := Int.mul_ediv_add_emod t d
      have h8 := Int.emod_nonneg t (show d ≠ 0 by omega)
      have h9 : (d * q).toNat = d.toNat * q.toNat := Int.toNat_mul (by omega) hq0
      have h10 := Int.mul_nonneg (show 0 ≤ d by omega) hq0
      rw [← h9]
      rw [← hq] at h7
      omega
    have e2 : t.toNat = (rd l (k : Int)).toNat + 4294967296 * r.toNat := by omega
    generalize (rd l (k : Int)).toNat = x at *
    generalize (t % d).toNat = m at *
    generalize d.toNat = dn at *
    generalize q.toNat = qn at *
    generalize val (o.drop (k + 1)) = Q at *
    rw [Nat.mul_add, Nat.mul_add, Nat.mul_left_comm dn]
    omega
theorem shrinkIn_end {d r : Int} {l o : List Int} (hd : 0 < d) (h : ShrinkIn d l 0 r o) : trimL o = lim (val l / d.toNat) ∧ r = ((val l % d.toNat : Nat) : Int) := by
  obtain ⟨h1, h2, h3, h4, h5, h6⟩ := h
  rw [List.drop_zero, List.drop_zero] at h6
  have hr : r.toNat < d.toNat := by omega
  rw [trimL_eq h2]
  have e : val l / d.toNat = val o := by
    rw [h6, Nat.mul_add_div (by omega), Nat.div_eq_of_lt hr, Nat.add_zero]
  have e2 : val l % d.toNat = r.toNat := by
    rw [h6, Nat.mul_add_mod, Nat.mod_eq_of_lt hr]
  rw [e, e2]
  exact ⟨rfl, by omega⟩
theorem size_setCell (w : World) (p : Addr) (u : Value) : (w.setCell p u).heap.size = w.heap.size := by simp [World.setCell]
set_option maxHeartbeats 2000000 in
theorem shrink_calls (g base : Nat) (v : Value) (l : List Int) (d : Int) (w0 w : World) (hb : Blk w g 74 #[v]) (hr : (Kd.int .u32).R 73 w base (fun k => k ≠ g) v l) (hB : Below base w0 w) (hbs : base ≤ w.heap.size) (hg : base ≤ g) (hd : 0 < d ∧ d < 4294967296) (hl : Limbs l) :
    Calls Try.prog 117 #[.pointer (some ⟨g, 0, none⟩), .int .u32 d] w fun e w' => ∃ v', e = .returned (.int .u32 ((val l % d.toNat : Nat) : Int)) ∧ Blk w' g 74 #[v'] ∧ (Kd.int .u32).R 73 w' base (fun k => k ≠ g) v' (lim (val l / d.toNat)) ∧ Below base w0 w' := by
  obtain ⟨A, c, rfl⟩ := Kd.R_slice hr
  have hlen : l.length ≤ 9223372036854775807 := (Kd.R_reads' hr).2.2.2.1
  have hlc : l.length ≤ c := (Kd.R_reads' hr).2.1
  have HLC := Aside0.mk hlc
  have HR := Aside0.mk hr
  have HBk := Aside0.mk hb
  have HB := Aside0.mk hB
  have HL := Aside0.mk hl
  have hcell := HBk.out.cell 0
  have hz : (d == 0) = false := by rw [beq_eq_false_iff_ne]; omega
  have hd1 := hd.1
  have hd2 := hd.2
  have HD := Aside0.mk hd
  clear hr hb hB hl hd hlc
  go_enter Try.func117, Try.ntmps117
  go_wp2
  go_loopg [5, 6] l.length (fun k v5 v6 w' => ∃ (r : Int) (o : List Int), v5 = .int .u64 r ∧ v6 = .int .i64 ((k : Int) - 1) ∧ Aside0 (k ≤ l.length) ∧ Aside0 (ShrinkIn d l k r o) ∧ Aside0 (Blk w' g 74 #[.slice A l.length c]) ∧ Aside0 ((Kd.int .u32).R 73 w' base (fun k => k ≠ g) (.slice A l.length c) o) ∧ Aside0 (Below base w0 w') ∧ Aside0 (base ≤ w'.heap.size))
  case atStart => exact ⟨0, l, rfl, rfl, ⟨Nat.le_refl _⟩, ⟨shrinkIn_start HD.out.1 HL.out⟩, HBk, HR, HB, ⟨hbs⟩⟩
  case round =>
    clear HR HB HBk hcell hbs
    obtain ⟨r, o, rfl, rfl, HK, HM, HBk, HR, HB, HBS⟩ := hrel
    have hcell := HBk.out.cell 0
    have hol := HM.out.1
    have HOL := Aside0.mk hol
    clear hol
    cases gk with
    | zero =>
      go_wp2_with fail
      have hend := shrinkIn_end HD.out.1 HM.out
      refine (trim_calls g A c o _ (by rw [HOL.out]; exact HBk.out) (Kd.R_reads' HR.out).2.2 (by rw [HOL.out]; exact HLC.out)).mono ?_
      rintro e w' ⟨rfl, hg', hb'⟩
      have hRt := Kd.R_take (m := trimN o) (Kd.R_grown HR.out hg' (by rintro k hk h; injection h with h; exact hk h)) (trimN_le _)
      have he : o.take (trimN o) = lim (val l / d.toNat) := hend.1
      rw [he] at hRt
      have HRT := Aside0.mk hRt
      have HBB := Aside0.mk (HB.out.grown hg' HBS.out (by intro k hk; injection hk with hk; omega))
      have HBL := Aside0.mk hb'
      have hr0 := HM.out.2.2.2.1
      have hr1 := HM.out.2.2.2.2.1
      have HRR := Aside0.mk hend.2
      clear hRt he hg' hb' hend
      go_wp2
      go_ret
      exact ⟨_, by rw [← HRR.out]; rfl, HBL.out, HRT.out, HBB.out⟩
    | succ k1 =>
      have hk := HK.out
      rw [show ((k1 + 1 : Nat) : Int) - 1 = (k1 : Int) from by omega]
      obtain ⟨gb, cap, hv, hgb, hgl, hcl⟩ := Kd.R_form HR.out (by rw [HOL.out]; omega)
      injection hv with hA _ _
      subst hA
      obtain ⟨hx, hfx⟩ := Kd.R_celln 0 HR.out (k1 : Int) (by omega) (by omega)
      rw [Int.toNat_natCast, show rdOf 0 o (k1 : Int) = rd o (k1 : Int) from rfl] at hx
      rw [Int.toNat_natCast] at hfx
      have hgne : gb ≠ g := HR.out.1 gb rfl
      have q1 : (k1 : Int) < (l.length : Int) := by omega
      have hr0 := HM.out.2.2.2.1
      have hr1 := HM.out.2.2.2.2.1
      have hxb := limbs_rd HM.out.2.1 (k1 : Int)
      obtain ⟨x, hxe⟩ : ∃ x, x = rd o (k1 : Int) := ⟨_, rfl⟩
      rw [← hxe] at hx hxb
      obtain ⟨t, ht⟩ : ∃ t, t = x + 4294967296 * r := ⟨_, rfl⟩
      have hor : Go.bits .or .u64 (r * 4294967296) x = t := by rw [ht]; exact or_join x r hxb ⟨hr0, by omega⟩
      have ht0 : 0 ≤ t ∧ t ≤ 18446744073709551615 := by omega
      obtain ⟨q, hq⟩ : ∃ q, q = t / d := ⟨_, rfl⟩
      have hstep := shrinkIn_step (q := q) (t := t) HD.out HL.out (by omega) HM.out (by rw [ht, hxe]) hq
      have hq0 := hstep.1
      have hq1 := hstep.2.1
      have hm0 := hstep.2.2.2.2.2.1
      have hm1 := hstep.2.2.2.2.2.2.1
      have HST := Aside0.mk hstep.2.2
      have hqq : t / d = q := hq.symm
      have HX := Aside0.mk hxe
      have HT := Aside0.mk ht
      have HP := Aside0.mk (Kd.R_putg HR.out (k1 : Int) q)
      clear hxe ht hq hstep
      go_wp2
      go_region
      all_goals
        go_wp2
        go_roundg k1
        case measure => omega
        case rel =>
          have hp := HP.out
          rw [Int.toNat_natCast] at hp
          exact ⟨_, _, rfl, by go_num, ⟨by omega⟩, HST, ⟨(HBk.out.far (fun e => hgne e.symm) _).drew⟩, ⟨Kd.R_drew hp.1⟩, ⟨below_drew (HB.out.setCell hgb _)⟩, ⟨by show base ≤ (wr.setCell _ _).heap.size; rw [size_setCell]; exact HBS.out⟩⟩
end Go.Proofs.Ytlpckbleokoiiaa.Hand
set_option linter.unusedVariables false
set_option linter.unusedSimpArgs false
namespace Go.Proofs.Ytlpckbleokoiiaa.Hand
open Go.RowKit Go.Proofs.YtlpckbleokoiiaaW.PrintWords Go.Proofs.YtlpckbleokoiiaaW.PrintLast Go.Proofs.YtlpckbleokoiiaaW.PrintMore
/-- Behind i limbs of l, shifted by p = 2^k. -/
def LeftIn (p : Nat) (l : List Int) (i : Nat) (o : List Int) : Prop :=
  o.length = l.length + 1 ∧ Limbs o ∧ val o = val (l.take i) * p ∧ rd o (i : Int) < (p : Int) ∧ ∀ j : Nat, i < j → rd o (j : Int) = 0
theorem leftIn_start (p : Nat) (hp : 0 < p) (l : List Int) : LeftIn p l 0 (List.replicate (l.length + 1) 0) := by
  have hz : ∀ j : Nat, rd (List.replicate (l.length + 1) 0) (j : Int) = 0 := fun j => by
    unfold rd
    rw [List.getD_eq_getElem?_getD, List.getElem?_replicate]
    split <;> rfl
  exact ⟨by simp, Limbs.replicate _, by rw [val_replicate]; simp [val], by rw [hz]; omega, fun j _ => hz j⟩
theorem or32_join (k : Nat) (hk : k ≤ 31) (z u : Int) (hz : 0 ≤ z ∧ z < ((2 ^ k : Nat) : Int)) (hu : 0 ≤ u ∧ u < 4294967296) (hm : u.toNat % 2 ^ k = 0) : Go.bits .or .u32 z u = z + u := by
  have h2 : 2 ^ k ≤ 2 ^ 31 := Nat.pow_le_pow_right (by omega) hk
  have h3 : (2 ^ 31 : Nat) = 2147483648 := rfl
  rw [u32_or _ _ (by omega) (by omega) (by omega) (by omega), Nat.or_comm, nat_join k _ _ hm (by omega)]
  omega
theorem shl_parts (k : Nat) (hk : k ≤ 31) (x : Int) (hx : 0 ≤ x ∧ x < 4294967296) :
    ∃ s : Int, IntKind.u64.wrap (x * 2 ^ k) = s ∧ 0 ≤ s ∧ s ≤ 9223372036854775807 ∧ s.toNat = x.toNat * 2 ^ k ∧ (s % 4294967296).toNat % 2 ^ k = 0 ∧ s / 4294967296 < ((2 ^ k : Nat) : Int) ∧ s % 4294967296 ≤ 4294967296 - ((2 ^ k : Nat) : Int) := by
  have h2 : 2 ^ k ≤ 2 ^ 31 := Nat.pow_le_pow_right (by omega) hk
  have h3 : (2 ^ 31 : Nat) = 2147483648 := rfl
  have hp : 0 < 2 ^ k := Nat.pow_pos (by omega)
  obtain ⟨n, rfl⟩ := Int.eq_ofNat_of_zero_le hx.1
  have hc : (n : Int) * 2 ^ k = ((n * 2 ^ k : Nat) : Int) := by simp
  have hn : n < 4294967296 := by omega
  have hb : n * 2 ^ k ≤ 4294967295 * 2147483648 := Nat.mul_le_mul (by omega) (by omega)
  have hq : n * 2 ^ k / 4294967296 < 2 ^ k := by
    rw [Nat.div_lt_iff_lt_mul (by omega), Nat.mul_comm]
    exact Nat.mul_lt_mul_of_pos_left hn hp
  have hd : (2 ^ k) ∣ 4294967296 := by
    have : (4294967296 : Nat) = 2 ^ 32 := rfl
    rw [this]
    exact Nat.pow_dvd_pow 2 (by omega)
  have hm : n * 2 ^ k % 4294967296 % 2 ^ k = 0 := by
    rw [Nat.mod_mod_of_dvd _ hd]
    exact Nat.mul_mod_left n _
  have hmi : (((n * 2 ^ k : Nat) : Int) % 4294967296).toNat = n * 2 ^ k % 4294967296 := by
    generalize n * 2 ^ k = N
    omega
  refine ⟨((n * 2 ^ k : Nat) : Int), ?_, by omega, by omega, by rw [Int.toNat_natCast, Int.toNat_natCast], by rw [hmi]; exact hm, by omega, ?_⟩
  · rw [hc, IntKind.wrap_u64]
    exact Int.emod_eq_of_lt (by omega) (by omega)
  · obtain ⟨m, hm2⟩ := hd
    have h4 : n * 2 ^ k % 4294967296 ≤ 4294967296 - 2 ^ k := by
      have h5 := Nat.div_add_mod (n * 2 ^ k % 4294967296) (2 ^ k)
      rw [hm, Nat.add_zero] at h5
      have h6 : n * 2 ^ k % 4294967296 < 4294967296 := Nat.mod_lt _ (by omega)
      generalize n * 2 ^ k % 4294967296 = r at *
      generalize 2 ^ k = P at *
      rw [hm2] at h6 ⊢
      rw [← h5] at h6 ⊢
      have h7 : r / P < m := Nat.lt_of_mul_lt_mul_left h6
      have h8 : P * (r / P + 1) ≤ P * m := Nat.mul_le_mul_left _ h7
      rw [Nat.mul_add, Nat.mul_one] at h8
      omega
    omega
theorem leftIn_step {k : Nat} {l o : List Int} {i : Nat} {x s : Int} (hl : Limbs l) (hi : i < l.length) (hx : x = rd l (i : Int)) (h : LeftIn (2 ^ k) l i o)
    (hs : 0 ≤ s ∧ s.toNat = x.toNat * 2 ^ k ∧ s / 4294967296 < ((2 ^ k : Nat) : Int) ∧ s % 4294967296 ≤ 4294967296 - ((2 ^ k : Nat) : Int)) (hk : k ≤ 31) :
    LeftIn (2 ^ k) l (i + 1) ((o.set i (rd o (i : Int) + s % 4294967296)).set (i + 1) (s / 4294967296)) := by
  obtain ⟨h1, h2, h3, h4, h5⟩ := h
  obtain ⟨s0, s1, s2, s3⟩ := hs
  have hr := limbs_rd h2 (i : Int)
  have h2k : 2 ^ k ≤ 2 ^ 31 := Nat.pow_le_pow_right (by omega) hk
  have h31 : (2 ^ 31 : Nat) = 2147483648 := rfl
  have hb : 0 ≤ rd o (i : Int) + s % 4294967296 ∧ rd o (i : Int) + s % 4294967296 < 4294967296 := by omega
  have hlen : (o.set i (rd o (i : Int) + s % 4294967296)).length = o.length := List.length_set
  refine ⟨by rw [List.length_set, List.length_set]; exact h1, (h2.set _ hb).set _ (by omega), ?_, ?_, fun j hj => ?_⟩
  · have a1 := val_set (o.set i (rd o (i : Int) + s % 4294967296)) (i + 1) (s / 4294967296) (by omega)
    have a2 := val_set o i (rd o (i : Int) + s % 4294967296) (by omega)
    rw [rd_set_ne _ (by omega), h5 (i + 1) (by omega)] at a1
    rw [val_take_succ l i hi, ← hx, Nat.add_mul, ← h3]
    have e1 : (rd o (i : Int) + s % 4294967296).toNat = (rd o (i : Int)).toNat + (s % 4294967296).toNat := by omega
    have e2 : (s / 4294967296).toNat * 4294967296 + (s % 4294967296).toNat = x.toNat * 2 ^ k := by omega
    rw [e1] at a2
    rw [Nat.pow_succ] at a1
    rw [show (0 : Int).toNat = 0 from rfl, Nat.zero_mul, Nat.add_zero] at a1
    rw [Nat.add_mul] at a2
    have e3 : x.toNat * 4294967296 ^ i * 2 ^ k = (x.toNat * 2 ^ k) * 4294967296 ^ i := Nat.mul_right_comm _ _ _
    rw [e3, ← e2, Nat.add_mul]
    have e4 : (s / 4294967296).toNat * (4294967296 ^ i * 4294967296) = (s / 4294967296).toNat * 4294967296 * 4294967296 ^ i := by
      rw [Nat.mul_comm (4294967296 ^ i), Nat.mul_assoc]
    rw [e4] at a1
    omega
  · rw [rd_set_eq _ (by omega)]
    exact s2
  · rw [rd_set_ne _ (by omega), rd_set_ne _ (by omega)]
    exact h5 j (by omega)
set_option maxHeartbeats 2000000 in
theorem left_calls (A : Option Addr) (c : Nat) (l : List Int) (k : Nat) (w : World) (hr : (Kd.int .u32).C w A l.length l) (hl : Limbs l) (hk : k ≤ 31) (hn : l.length ≤ 1099511627777) :
    Calls Try.prog 119 #[.slice A l.length c, .int .i64 (k : Int)] w fun e w' => ∃ v o, e = .returned v ∧ (Kd.int .u32).R 73 w' w.heap.size (fun _ => True) v o ∧ Below w.heap.size w w' ∧ LeftIn (2 ^ k) l l.length o := by
  have HR := Aside0.mk hr
  have HL := Aside0.mk hl
  clear hr hl
  have hmk : ∀ W : World, (Instr.makeSlice 74 (.int .i64 ((l.length : Int) + 1)) (.int .i64 ((l.length : Int) + 1))).run Try.prog W = .ok (.slice (some ⟨W.heap.size, 0, none⟩) (l.length + 1) (l.length + 1)) (W.alloc (.cells (madeCells #[.int .u32 0] (l.length + 1)) 73)) := by
    intro W
    rw [show ((l.length : Int) + 1) = ((l.length + 1 : Nat) : Int) from by omega]
    exact print_make 74 73 .u32 4 Try.underlying74 infoU (by omega) _ (by omega) W
  have hO := Aside0.mk (show (Kd.int .u32).R 73 (w.alloc (.cells (madeCells #[.int .u32 0] (l.length + 1)) 73)) w.heap.size (fun k => k = w.heap.size) (.slice (some ⟨w.heap.size, 0, none⟩) (l.length + 1) (l.length + 1)) (List.replicate (l.length + 1) 0) from
    Kd.R_of_own (by rw [List.length_replicate]; exact own_made w w.heap.size 73 .u32 _ (Nat.le_refl _) (by omega)) (fun k hk => by simpa [Value.ownBlock] using hk.symm))
  go_enter Try.func119, Try.ntmps119
  go_wp2
  go_loopg [15] l.length (fun g v15 w' => ∃ i : Nat, v15 = .int .i64 (i : Int) ∧ Aside0 (i + g = l.length) ∧ ∃ o : List Int, Aside0 (LeftIn (2 ^ k) l i o) ∧ Aside0 ((Kd.int .u32).R 73 w' w.heap.size (fun k => k = w.heap.size) (.slice (some ⟨w.heap.size, 0, none⟩) (l.length + 1) (l.length + 1)) o) ∧ Aside0 (Below w.heap.size w w'))
  case atStart =>
    refine ⟨0, rfl, ⟨by omega⟩, _, ⟨?_⟩, hO, ⟨below_alloc (Below.refl _ _) _⟩⟩
    exact leftIn_start _ (Nat.pow_pos (by omega)) l
  case round =>
    clear hO
    obtain ⟨i, rfl, HI, o, HM, HO, HB⟩ := hrel
    by_cases hlt : i < l.length
    · have hx0 := limbs_rd HL.out (i : Int)
      obtain ⟨x, hx⟩ : ∃ x, x = rd l (i : Int) := ⟨_, rfl⟩
      rw [← hx] at hx0
      obtain ⟨ad, eA, hcx⟩ := Kd.at_int HR.out (i : Int) (by omega) (by omega)
      subst eA
      rw [Int.toNat_natCast, ← hx] at hcx
      replace hcx := (HB.out.cell (World.block_lt_of_cell? w _ hcx)).trans hcx
      have HXE := Aside0.mk hx
      clear hx
      have hil : (i : Int) < (l.length : Int) := by omega
      have hol := HM.out.1
      obtain ⟨hcz, hfz⟩ := Kd.R_celln 0 HO.out (i : Int) (by omega) (by omega)
      obtain ⟨hcy, hfy⟩ := Kd.R_celln 0 HO.out ((i + 1 : Nat) : Int) (by omega) (by omega)
      rw [Int.toNat_natCast] at hcz hfz hcy hfy
      obtain ⟨z, hz⟩ : ∃ z, z = rdOf 0 o (i : Int) := ⟨_, rfl⟩
      rw [← hz] at hcz
      have hz0 : 0 ≤ z ∧ z < ((2 ^ k : Nat) : Int) := ⟨by rw [hz]; exact (limbs_rd HM.out.2.1 _).1, by rw [hz]; exact HM.out.2.2.2.1⟩
      obtain ⟨s, hs, s0, s1, s2, s3, s4, s5⟩ := shl_parts k hk x hx0
      obtain ⟨t, ht⟩ : ∃ t, t = z + s % 4294967296 := ⟨_, rfl⟩
      have hor : Go.bits .or .u32 z (s % 4294967296) = t := by rw [ht]; exact or32_join k hk z _ hz0 (by omega) s3
      have HS := Aside0.mk (show 0 ≤ s ∧ s.toNat = x.toNat * 2 ^ k ∧ s / 4294967296 < ((2 ^ k : Nat) : Int) ∧ s % 4294967296 ≤ 4294967296 - ((2 ^ k : Nat) : Int) from ⟨s0, s2, s4, s5⟩)
      have HZ := Aside0.mk hz
      have HZ0 := Aside0.mk hz0
      have HT := Aside0.mk ht
      have hq : (i : Int) < (l.length : Int) + 1 := by omega
      have HOL := Aside0.mk hol
      clear s2 s3 s4 s5 hz ht hz0 hol
      go_wp2
      go_roundg (gk - 1)
      case measure => have := HI.out; omega
      case rel =>
        have hstep := leftIn_step (s := s) HL.out hlt HXE.out HM.out HS.out hk
        have hp1 := Kd.R_putg HO.out (i : Int) t
        have hp2 := Kd.R_putg hp1.1 ((i + 1 : Nat) : Int) (s / 4294967296)
        rw [Int.toNat_natCast] at hp1 hp2
        rw [Int.toNat_natCast] at hp2
        have e : (o.set i t).set (i + 1) (s / 4294967296) = (o.set i (rd o (i : Int) + s % 4294967296)).set (i + 1) (s / 4294967296) := by rw [HT.out, HZ.out]; rfl
        exact ⟨i + 1, by go_num, ⟨by have := HI.out; omega⟩, _, ⟨hstep⟩, ⟨e ▸ hp2.1⟩, ⟨below_set (below_set HB.out (Nat.le_refl _)) (Nat.le_refl _)⟩⟩
    · have hie : i = l.length := by have := HI.out; omega
      subst hie
      go_wp2
      go_ret
      exact ⟨_, _, rfl, Kd.R_mono HO.out (fun _ _ => trivial), HB.out, HM.out⟩
end Go.Proofs.Ytlpckbleokoiiaa.Hand
set_option linter.unusedVariables false
set_option linter.unusedSimpArgs false
namespace Go.Proofs.Ytlpckbleokoiiaa.Hand
open Go.RowKit Go.Proofs.YtlpckbleokoiiaaW.PrintWords Go.Proofs.YtlpckbleokoiiaaW.PrintLast Go.Proofs.YtlpckbleokoiiaaW.PrintMore
end Go.Proofs.Ytlpckbleokoiiaa.Hand
end

section
/- Kinds for the laws, rationals as triples, and arguments opened by their kinds. The conditions stand with each part. -/
set_option linter.unusedVariables false
set_option linter.unusedSimpArgs false
namespace Go.Proofs.Ytlpckbleokoiiaa.Hand
open Go.RowKit Go.Proofs.YtlpckbleokoiiaaW.PrintWords Go.Proofs.YtlpckbleokoiiaaW.PrintLast Go.Proofs.YtlpckbleokoiiaaW.PrintMore
/-- Two in line whose rows lie apart. -/
def spair {α β : Type} (a : Kd α) (b : Kd β) : Kd (α × β) where
  sz := a.sz + b.sz
  E := a.E ++ b.E
  K := fun w x cs => ∃ c0 c1, cs = c0 ++ c1 ∧ a.K w x.1 c0 ∧ b.K w x.2 c1
  M := fun w base ok x cs => ∃ (c0 c1 : List Value) (P : Nat → Prop), cs = c0 ++ c1 ∧ a.M w base (fun k => ok k ∧ P k) x.1 c0 ∧ b.M w base (fun k => ok k ∧ ¬ P k) x.2 c1
  K_len := by
    rintro w x cs ⟨c0, c1, rfl, h0, h1⟩
    rw [List.length_append, a.K_len h0, b.K_len h1]
  K_one := by
    rintro w x cs ⟨c0, c1, rfl, h0, h1⟩ u hu
    rcases List.mem_append.1 hu with hu | hu
    · exact a.K_one h0 u hu
    · exact b.K_one h1 u hu
  K_below := by
    rintro w w1 x cs hb ⟨c0, c1, rfl, h0, h1⟩
    exact ⟨c0, c1, rfl, a.K_below hb h0, b.K_below hb h1⟩
  K_of_M := by
    rintro w base ok x cs ⟨c0, c1, P, rfl, h0, h1⟩
    exact ⟨c0, c1, rfl, a.K_of_M h0, b.K_of_M h1⟩
  M_mono := by
    rintro w base ok ok' x cs hok ⟨c0, c1, P, rfl, h0, h1⟩
    exact ⟨c0, c1, P, rfl, a.M_mono (fun k hk => ⟨hok k hk.1, hk.2⟩) h0, b.M_mono (fun k hk => ⟨hok k hk.1, hk.2⟩) h1⟩
  M_bound := by
    rintro w base ok x cs ⟨c0, c1, P, rfl, h0, h1⟩
    refine ⟨c0, c1, P, rfl, a.M_mono ?_ (a.M_bound h0), b.M_mono ?_ (b.M_bound h1)⟩
    · rintro k ⟨h2, h3, h4, q, hq, hc⟩
      exact ⟨⟨h2.1, h3, h4, q, List.mem_append_left _ hq, hc⟩, h2.2⟩
    · rintro k ⟨h2, h3, h4, q, hq, hc⟩
      exact ⟨⟨h2.1, h3, h4, q, List.mem_append_right _ hq, hc⟩, h2.2⟩
  M_move := by
    rintro w w1 base ok x cs hm ⟨c0, c1, P, rfl, h0, h1⟩
    exact ⟨c0, c1, P, rfl, a.M_move (fun k hk => hm k hk.1) h0, b.M_move (fun k hk => hm k hk.1) h1⟩
  M_lower := by
    rintro w base base' ok x cs hb ⟨c0, c1, P, rfl, h0, h1⟩
    exact ⟨c0, c1, P, rfl, a.M_lower hb h0, b.M_lower hb h1⟩
/-- A list of limbs in one cell. -/
def natK : Kd (List Int) := Kd.slice 73 (Kd.int .u32)
/-- A rational as it lies in memory. -/
structure Rt where
  neg : Bool
  num : List Int
  den : List Int
/-- A rational: a sign and two lists of limbs. -/
def ratK : Kd Rt := Kd.iso (Kd.pair Kd.bool (spair natK natK)) (fun r => (r.neg, r.num, r.den))
section
variable {w w' : World} {base n c : Nat} {ok : Nat → Prop} {A : Option Addr} {l : List Int} {v : Value} {cs : List Value} {r : Rt}
theorem ratK_form (h : ratK.K w r cs) : ∃ A c A' c', cs = [.bool r.neg, .slice A r.num.length c, .slice A' r.den.length c'] ∧ r.num.length ≤ c ∧ (Kd.int .u32).C w A r.num.length r.num ∧ r.den.length ≤ c' ∧ (Kd.int .u32).C w A' r.den.length r.den := by
  obtain ⟨c0, c1, rfl, h0, c2, c3, rfl, ⟨A, c, rfl, hc, hC⟩, ⟨A', c', rfl, hc', hC'⟩⟩ := h
  have e0 : c0 = [.bool r.neg] := h0
  subst e0
  exact ⟨A, c, A', c', rfl, hc, hC, hc', hC'⟩
theorem ratK_of {s : Bool} {A' : Option Addr} {c' : Nat} {l' : List Int} (hc : l.length ≤ c) (h : (Kd.int .u32).C w A l.length l) (hc' : l'.length ≤ c') (h' : (Kd.int .u32).C w A' l'.length l') : ratK.K w ⟨s, l, l'⟩ [.bool s, .slice A l.length c, .slice A' l'.length c'] :=
  ⟨[.bool s], [.slice A l.length c, .slice A' l'.length c'], rfl, rfl, [.slice A l.length c], [.slice A' l'.length c'], rfl, ⟨A, c, rfl, hc, h⟩, ⟨A', c', rfl, hc', h'⟩⟩
end
/-- Blocks made between two sizes of the heap, and a side of a result. -/
structure Iv (a b : Nat) (P : Nat → Prop) (k : Nat) : Prop where mk :: (lo : a ≤ k) (hi : k < b) (p : P k)
end Go.Proofs.Ytlpckbleokoiiaa.Hand
set_option linter.unusedVariables false
set_option linter.unusedSimpArgs false
namespace Go.Proofs.Ytlpckbleokoiiaa.Hand
open Go.RowKit Go.Proofs.YtlpckbleokoiiaaW.PrintWords
/-- The last element is not zero. -/
def plainB (l : List Int) : Bool := decide (l.length = 0) || (rd l ((l.length : Int) - 1) != 0)
/-- Is the triple valid? -/
def okR (r : Rt) : Bool := plainB r.num && plainB r.den && decide (r.den.length ≠ 0) && decide (Nat.gcd (val r.num) (val r.den) = 1) && (decide (r.num.length ≠ 0) || !r.neg)
theorem plainB_iff {l : List Int} : plainB l = true ↔ Plain l := by
  unfold plainB Plain
  rcases Nat.eq_zero_or_pos l.length with h | h
  · rw [List.length_eq_zero_iff] at h
    subst h
    simp
  · obtain ⟨m, hm⟩ : ∃ m, l.length = m + 1 := ⟨l.length - 1, by omega⟩
    have hne : l ≠ [] := by intro e; subst e; simp at h
    have e1 : (l.length : Int) - 1 = (m : Int) := by omega
    rw [e1, rd_lt (by omega : m < l.length)]
    have e2 : l.getLast hne = l[m] := by
      rw [List.getLast_eq_getElem]
      simp only [hm, Nat.add_sub_cancel]
    constructor
    · intro hp _
      rw [e2]
      simp at hp
      exact hp.resolve_left hne
    · intro hp
      have := hp hne
      rw [e2] at this
      simp
      exact .inr this
end Go.Proofs.Ytlpckbleokoiiaa.Hand
set_option linter.unusedVariables false
set_option linter.unusedSimpArgs false
namespace Go.Proofs.Ytlpckbleokoiiaa.Hand
open Go.ChangeShapes Go.WideShapes Go.Joins Go.RowKit Go.Proofs.YtlpckbleokoiiaaW.PrintWords Go.Proofs.YtlpckbleokoiiaaW.PrintLast Go.Proofs.YtlpckbleokoiiaaW.PrintMore
/-- What reads as data of type t has cells of kind d, and is good. -/
def Opens {α : Type} (d : Kd α) (t : TypeId) (good : α → Prop) : Prop :=
  ∀ {H : Type} (enc : TypeId × Value → H) (W : World) (fuel : Nat) (cs : List Value) (x : DataW H × List MemPlace), DataW.trod enc Try.prog W 0 (fun _ => true) true fuel t cs = some x → ∃ y, d.K W y cs ∧ good y
theorem opens_bool {t : TypeId} (ht : Try.prog.underlying t = some .bool) : Opens Kd.bool t (fun _ => True) := by
  intro H enc W fuel cs x h
  obtain ⟨b, rfl, _⟩ := DataW.trod_bool ht h
  exact ⟨b, rfl, trivial⟩
theorem opens_int {t : TypeId} {k : IntKind} (ht : Try.prog.underlying t = some (.int k)) : Opens (Kd.int k) t (fun n => (Lit.int k n).wf = true) := by
  intro H enc W fuel cs x h
  obtain ⟨n, rfl, _, hw⟩ := DataW.trod_int ht h
  exact ⟨n, rfl, hw⟩
theorem opens_mono {α : Type} {d : Kd α} {t : TypeId} {good good' : α → Prop} (h : Opens d t good) (hg : ∀ y, good y → good' y) : Opens d t good' := by
  intro H enc W fuel cs x hx
  obtain ⟨y, h1, h2⟩ := h enc W fuel cs x hx
  exact ⟨y, h1, hg y h2⟩
theorem opens_slice {α : Type} {d : Kd α} {t e : TypeId} {good : α → Prop} (ht : Try.prog.underlying t = some (.slice e)) (hc : Try.prog.cellsOf e = d.sz) (h : Opens d e good) : Opens (Kd.slice e d) t (fun xs => ∀ x ∈ xs, good x) := by
  intro H enc W fuel cs x hx
  rcases Go.Deep.open_slice ht hx with ⟨rfl, _⟩ | ⟨a, len, cap, m, n, D, Pl, rfl, _, hl, hm, hmm, _, hel⟩
  · exact ⟨[], ⟨none, 0, rfl, Nat.le_refl _, Kd.C_nil d W⟩, fun x hx => by simp at hx⟩
  · simp only [if_true] at hmm
    subst hmm
    have key : ∀ k, k ≤ len → ∃ xs : List α, xs.length = k ∧ (∀ x ∈ xs, good x) ∧ ∀ j p, xs[j]? = some p → ∃ c, c.length = d.sz ∧ d.K W p c ∧ ∀ i u, c[i]? = some u → W.cell? (a.add (j * d.sz + i)) = some u := by
      intro k
      induction k with
      | zero => exact fun _ => ⟨[], rfl, fun x hx => by simp at hx, fun j p h => by simp at h⟩
      | succ k ih =>
        intro hk
        obtain ⟨xs, h1, h2, h3⟩ := ih (by omega)
        obtain ⟨cs', hcs, htr⟩ := hel k (by omega)
        rw [hc] at hcs
        obtain ⟨_, hlen, hcell⟩ := World.cells?_some hcs
        obtain ⟨y, hK, hg⟩ := h enc W n cs' _ htr
        refine ⟨xs ++ [y], by simp [h1], fun x hx => ?_, fun j p hj => ?_⟩
        · rcases List.mem_append.1 hx with hx | hx
          · exact h2 x hx
          · rw [List.mem_singleton.1 hx]; exact hg
        · rcases Nat.lt_or_ge j k with hjk | hjk
          · rw [List.getElem?_append_left (by omega)] at hj
            exact h3 j p hj
          · rw [List.getElem?_append_right (by omega), h1] at hj
            have hjk' : j = k := by
              have := (List.getElem?_eq_some_iff.1 hj).1
              simp at this
              omega
            subst hjk'
            have hp : y = p := by simpa using hj
            subst hp
            refine ⟨cs', hlen, hK, fun i u hu => ?_⟩
            have hi : i < d.sz := by have := (List.getElem?_eq_some_iff.1 hu).1; omega
            have h4 := hcell i hi
            rw [Go.Deep.add_add] at h4
            rw [h4]
            exact hu
    obtain ⟨xs, h1, h2, h3⟩ := key len (Nat.le_refl _)
    subst h1
    refine ⟨xs, ⟨some a, _, rfl, hl, rfl, ?_, fun _ => ⟨a, rfl, h3⟩⟩, h2⟩
    unfold maxLen at hm
    omega
theorem limbs_of_good {l : List Int} (h : ∀ x ∈ l, (Lit.int .u32 x).wf = true) : Limbs l := fun x hx => by
  have := h x hx
  simp [Lit.wf, show IntKind.u32.min = 0 from rfl, show IntKind.u32.max = 4294967295 from rfl] at this
  omega
end Go.Proofs.Ytlpckbleokoiiaa.Hand
end

section
/- The values' own types as Lean has them, and what is told of them in memory. Conditions: none. -/
namespace Go.Proofs.Ytlpckbleokoiiaa.Print
open Go.RowKit Go.Proofs.YtlpckbleokoiiaaW.PrintWords Go.Proofs.YtlpckbleokoiiaaW.PrintLast Go.Proofs.YtlpckbleokoiiaaW.PrintMore
attribute [local go_sem] max2_int min2_int max_two min_two max_three min_three max_four min_four
set_option linter.unusedVariables false
set_option linter.unusedSimpArgs false
def errW : Option Int → Value
  | none => .nilIface
  | some c => .iface 0 (.int .i64 c)
theorem errW_none : errW none = .nilIface := rfl
theorem errW_some (c : Int) : errW (some c) = .iface 0 (.int .i64 c) := rfl
theorem info26 : (Try.prog.info? 26).map (fun i => (i.zero, i.size, i.bytes)) = some (some (.agg #[(.bool false), (.slice none 0 0), (.slice none 0 0)]), 3, 56) := by kernel_rfl
theorem info73 : (Try.prog.info? 73).map (fun i => (i.zero, i.size, i.bytes)) = some (some (.int .u32 0), 1, 4) := by kernel_rfl
theorem info81 : (Try.prog.info? 81).map (fun i => (i.zero, i.size, i.bytes)) = some (some (.agg #[(.int .i64 0), (.int .i64 0), (.slice none 0 0), (.slice none 0 0)]), 4, 64) := by kernel_rfl
structure S7 where
  f0 : Int
  f1 : Int
  f2 : Bool
  f3 : Int
structure S8 where
  f0 : Int
  f1 : Int
  f2 : Bool
  f3 : Int
structure S13 where
  f0 : ByteArray
  f1 : Int
structure S14 where
  f0 : ByteArray
  f1 : Int
structure S25 where
  f0 : Bool
  f1 : (List Int)
  f2 : (List Int)
structure S26 where
  f0 : Bool
  f1 : (List Int)
  f2 : (List Int)
def z26 : S26 := ⟨false, ([] : List Int), ([] : List Int)⟩
def k26 : Kd S26 := Kd.iso (Kd.pair Kd.bool (Kd.pair (Kd.slice 73 (Kd.int .u32)) (Kd.slice 73 (Kd.int .u32)))) (fun x : S26 => (x.f0, x.f1, x.f2))
theorem k26_open {w : World} {x : S26} {cs : List Value} (h : k26.K w x cs) : ∃ A1 c1 A2 c2, cs = [.bool x.f0, .slice A1 x.f1.length c1, .slice A2 x.f2.length c2] ∧ x.f1.length ≤ c1 ∧ (Kd.int .u32).C w A1 x.f1.length x.f1 ∧ x.f2.length ≤ c2 ∧ (Kd.int .u32).C w A2 x.f2.length x.f2 := by
  obtain ⟨_, _, rfl, rfl, ⟨_, _, rfl, ⟨A1, c1, rfl, l1, g1⟩, ⟨A2, c2, rfl, l2, g2⟩⟩⟩ := h
  exact ⟨A1, c1, A2, c2, rfl, l1, g1, l2, g2⟩
theorem k26_openM {w : World} {base : Nat} {ok : Nat → Prop} {x : S26} {cs : List Value} (h : k26.M w base ok x cs) : ∃ v1 v2, cs = [.bool x.f0, v1, v2] ∧ (Kd.int .u32).R 73 w base ok v1 x.f1 ∧ (Kd.int .u32).R 73 w base ok v2 x.f2 := by
  obtain ⟨_, _, rfl, rfl, ⟨_, _, rfl, ⟨v1, rfl, g1⟩, ⟨v2, rfl, g2⟩⟩⟩ := h
  exact ⟨v1, v2, rfl, g1, g2⟩
theorem k26_mkM (w : World) (base : Nat) (ok : Nat → Prop) (x : S26) {v1 : Value} (g1 : (Kd.int .u32).R 73 w base ok v1 x.f1) {v2 : Value} (g2 : (Kd.int .u32).R 73 w base ok v2 x.f2) : k26.M w base ok x [.bool x.f0, v1, v2] := ⟨[.bool x.f0], [v1, v2], rfl, rfl, ⟨[v1], [v2], rfl, ⟨v1, rfl, g1⟩, ⟨v2, rfl, g2⟩⟩⟩
def rd_T26 (xs : List S26) (i : Int) : S26 := xs.getD i.toNat z26
theorem at_T26 {w : World} {A : Option Addr} {n : Nat} {xs : List S26} (h : Kd.C k26 w A n xs) (i : Int) (h0 : 0 ≤ i) (h1 : i < n) : ∃ ad A1 c1 A2 c2, A = some ad ∧ w.cell? (ad.add (i.toNat * 3)) = some (.bool (rd_T26 xs i).f0) ∧ w.cell? ⟨(ad.add (i.toNat * 3)).block, (ad.add (i.toNat * 3)).off + 1, none⟩ = some (.slice A1 (rd_T26 xs i).f1.length c1) ∧ w.cell? ⟨(ad.add (i.toNat * 3)).block, (ad.add (i.toNat * 3)).off + 2, none⟩ = some (.slice A2 (rd_T26 xs i).f2.length c2) ∧ (rd_T26 xs i).f1.length ≤ c1 ∧ (Kd.int .u32).C w A1 (rd_T26 xs i).f1.length (rd_T26 xs i).f1 ∧ (rd_T26 xs i).f2.length ≤ c2 ∧ (Kd.int .u32).C w A2 (rd_T26 xs i).f2.length (rd_T26 xs i).f2 := by
  obtain ⟨ad, c, e, _, hK, hc0⟩ := Kd.C_get h z26 i h0 h1
  have hc : ∀ j u, c[j]? = some u → w.cell? (ad.add (i.toNat * 3 + j)) = some u := hc0
  obtain ⟨A1, c1, A2, c2, rfl, l1, g1, l2, g2⟩ := k26_open hK
  exact ⟨ad, A1, c1, A2, c2, e, hc 0 _ rfl, by rw [← add_field _ _ 1 (by omega)]; exact hc 1 _ rfl, by rw [← add_field _ _ 2 (by omega)]; exact hc 2 _ rfl, l1, g1, l2, g2⟩
structure S86 where
  f0 : Bool
  f1 : (List Int)
  f2 : (List Int)
def z86 : S86 := ⟨false, ([] : List Int), ([] : List Int)⟩
def k86 : Kd S86 := Kd.iso (Kd.pair Kd.bool (Kd.pair (Kd.slice 73 (Kd.int .u32)) (Kd.slice 73 (Kd.int .u32)))) (fun x : S86 => (x.f0, x.f1, x.f2))
theorem k86_open {w : World} {x : S86} {cs : List Value} (h : k86.K w x cs) : ∃ A1 c1 A2 c2, cs = [.bool x.f0, .slice A1 x.f1.length c1, .slice A2 x.f2.length c2] ∧ x.f1.length ≤ c1 ∧ (Kd.int .u32).C w A1 x.f1.length x.f1 ∧ x.f2.length ≤ c2 ∧ (Kd.int .u32).C w A2 x.f2.length x.f2 := by
  obtain ⟨_, _, rfl, rfl, ⟨_, _, rfl, ⟨A1, c1, rfl, l1, g1⟩, ⟨A2, c2, rfl, l2, g2⟩⟩⟩ := h
  exact ⟨A1, c1, A2, c2, rfl, l1, g1, l2, g2⟩
theorem k86_mk (w : World) (x : S86) {A1 : Option Addr} {c1 : Nat} (l1 : x.f1.length ≤ c1) (g1 : (Kd.int .u32).C w A1 x.f1.length x.f1) {A2 : Option Addr} {c2 : Nat} (l2 : x.f2.length ≤ c2) (g2 : (Kd.int .u32).C w A2 x.f2.length x.f2) : k86.K w x [.bool x.f0, .slice A1 x.f1.length c1, .slice A2 x.f2.length c2] := ⟨[.bool x.f0], [.slice A1 x.f1.length c1, .slice A2 x.f2.length c2], rfl, rfl, ⟨[.slice A1 x.f1.length c1], [.slice A2 x.f2.length c2], rfl, ⟨A1, c1, rfl, l1, g1⟩, ⟨A2, c2, rfl, l2, g2⟩⟩⟩
def rd_T86 (xs : List S86) (i : Int) : S86 := xs.getD i.toNat z86
theorem at_T86 {w : World} {A : Option Addr} {n : Nat} {xs : List S86} (h : Kd.C k86 w A n xs) (i : Int) (h0 : 0 ≤ i) (h1 : i < n) : ∃ ad A1 c1 A2 c2, A = some ad ∧ w.cell? (ad.add (i.toNat * 3)) = some (.bool (rd_T86 xs i).f0) ∧ w.cell? ⟨(ad.add (i.toNat * 3)).block, (ad.add (i.toNat * 3)).off + 1, none⟩ = some (.slice A1 (rd_T86 xs i).f1.length c1) ∧ w.cell? ⟨(ad.add (i.toNat * 3)).block, (ad.add (i.toNat * 3)).off + 2, none⟩ = some (.slice A2 (rd_T86 xs i).f2.length c2) ∧ (rd_T86 xs i).f1.length ≤ c1 ∧ (Kd.int .u32).C w A1 (rd_T86 xs i).f1.length (rd_T86 xs i).f1 ∧ (rd_T86 xs i).f2.length ≤ c2 ∧ (Kd.int .u32).C w A2 (rd_T86 xs i).f2.length (rd_T86 xs i).f2 := by
  obtain ⟨ad, c, e, _, hK, hc0⟩ := Kd.C_get h z86 i h0 h1
  have hc : ∀ j u, c[j]? = some u → w.cell? (ad.add (i.toNat * 3 + j)) = some u := hc0
  obtain ⟨A1, c1, A2, c2, rfl, l1, g1, l2, g2⟩ := k86_open hK
  exact ⟨ad, A1, c1, A2, c2, e, hc 0 _ rfl, by rw [← add_field _ _ 1 (by omega)]; exact hc 1 _ rfl, by rw [← add_field _ _ 2 (by omega)]; exact hc 2 _ rfl, l1, g1, l2, g2⟩
structure S117 where
  f0 : Int
  f1 : Int
  f2 : (List S86)
  f3 : (List S86)
def z117 : S117 := ⟨(0 : Int), (0 : Int), ([] : List S86), ([] : List S86)⟩
def k117 : Kd S117 := Kd.iso (Kd.pair (Kd.int .i64) (Kd.pair (Kd.int .i64) (Kd.pair (Kd.slice 86 k86) (Kd.slice 86 k86)))) (fun x : S117 => (x.f0, x.f1, x.f2, x.f3))
theorem k117_open {w : World} {x : S117} {cs : List Value} (h : k117.K w x cs) : ∃ A2 c2 A3 c3, cs = [.int .i64 x.f0, .int .i64 x.f1, .slice A2 x.f2.length c2, .slice A3 x.f3.length c3] ∧ x.f2.length ≤ c2 ∧ k86.C w A2 x.f2.length x.f2 ∧ x.f3.length ≤ c3 ∧ k86.C w A3 x.f3.length x.f3 := by
  obtain ⟨_, _, rfl, rfl, ⟨_, _, rfl, rfl, ⟨_, _, rfl, ⟨A2, c2, rfl, l2, g2⟩, ⟨A3, c3, rfl, l3, g3⟩⟩⟩⟩ := h
  exact ⟨A2, c2, A3, c3, rfl, l2, g2, l3, g3⟩
theorem k117_mk (w : World) (x : S117) {A2 : Option Addr} {c2 : Nat} (l2 : x.f2.length ≤ c2) (g2 : k86.C w A2 x.f2.length x.f2) {A3 : Option Addr} {c3 : Nat} (l3 : x.f3.length ≤ c3) (g3 : k86.C w A3 x.f3.length x.f3) : k117.K w x [.int .i64 x.f0, .int .i64 x.f1, .slice A2 x.f2.length c2, .slice A3 x.f3.length c3] := ⟨[.int .i64 x.f0], [.int .i64 x.f1, .slice A2 x.f2.length c2, .slice A3 x.f3.length c3], rfl, rfl, ⟨[.int .i64 x.f1], [.slice A2 x.f2.length c2, .slice A3 x.f3.length c3], rfl, rfl, ⟨[.slice A2 x.f2.length c2], [.slice A3 x.f3.length c3], rfl, ⟨A2, c2, rfl, l2, g2⟩, ⟨A3, c3, rfl, l3, g3⟩⟩⟩⟩
def rd_T117 (xs : List S117) (i : Int) : S117 := xs.getD i.toNat z117
theorem at_T117 {w : World} {A : Option Addr} {n : Nat} {xs : List S117} (h : Kd.C k117 w A n xs) (i : Int) (h0 : 0 ≤ i) (h1 : i < n) : ∃ ad A2 c2 A3 c3, A = some ad ∧ w.cell? (ad.add (i.toNat * 4)) = some (.int .i64 (rd_T117 xs i).f0) ∧ w.cell? ⟨(ad.add (i.toNat * 4)).block, (ad.add (i.toNat * 4)).off + 1, none⟩ = some (.int .i64 (rd_T117 xs i).f1) ∧ w.cell? ⟨(ad.add (i.toNat * 4)).block, (ad.add (i.toNat * 4)).off + 2, none⟩ = some (.slice A2 (rd_T117 xs i).f2.length c2) ∧ w.cell? ⟨(ad.add (i.toNat * 4)).block, (ad.add (i.toNat * 4)).off + 3, none⟩ = some (.slice A3 (rd_T117 xs i).f3.length c3) ∧ (rd_T117 xs i).f2.length ≤ c2 ∧ k86.C w A2 (rd_T117 xs i).f2.length (rd_T117 xs i).f2 ∧ (rd_T117 xs i).f3.length ≤ c3 ∧ k86.C w A3 (rd_T117 xs i).f3.length (rd_T117 xs i).f3 := by
  obtain ⟨ad, c, e, _, hK, hc0⟩ := Kd.C_get h z117 i h0 h1
  have hc : ∀ j u, c[j]? = some u → w.cell? (ad.add (i.toNat * 4 + j)) = some u := hc0
  obtain ⟨A2, c2, A3, c3, rfl, l2, g2, l3, g3⟩ := k117_open hK
  exact ⟨ad, A2, c2, A3, c3, e, hc 0 _ rfl, by rw [← add_field _ _ 1 (by omega)]; exact hc 1 _ rfl, by rw [← add_field _ _ 2 (by omega)]; exact hc 2 _ rfl, by rw [← add_field _ _ 3 (by omega)]; exact hc 3 _ rfl, l2, g2, l3, g3⟩
structure S39 where
  f0 : (List S117)
structure S40 where
  f0 : (List S117)
structure S81 where
  f0 : Int
  f1 : Int
  f2 : (List S26)
  f3 : (List S26)
def z81 : S81 := ⟨(0 : Int), (0 : Int), ([] : List S26), ([] : List S26)⟩
def k81 : Kd S81 := Kd.iso (Kd.pair (Kd.int .i64) (Kd.pair (Kd.int .i64) (Kd.pair (Kd.slice 26 k26) (Kd.slice 26 k26)))) (fun x : S81 => (x.f0, x.f1, x.f2, x.f3))
theorem k81_open {w : World} {x : S81} {cs : List Value} (h : k81.K w x cs) : ∃ A2 c2 A3 c3, cs = [.int .i64 x.f0, .int .i64 x.f1, .slice A2 x.f2.length c2, .slice A3 x.f3.length c3] ∧ x.f2.length ≤ c2 ∧ k26.C w A2 x.f2.length x.f2 ∧ x.f3.length ≤ c3 ∧ k26.C w A3 x.f3.length x.f3 := by
  obtain ⟨_, _, rfl, rfl, ⟨_, _, rfl, rfl, ⟨_, _, rfl, ⟨A2, c2, rfl, l2, g2⟩, ⟨A3, c3, rfl, l3, g3⟩⟩⟩⟩ := h
  exact ⟨A2, c2, A3, c3, rfl, l2, g2, l3, g3⟩
theorem k81_openM {w : World} {base : Nat} {ok : Nat → Prop} {x : S81} {cs : List Value} (h : k81.M w base ok x cs) : ∃ v2 v3, cs = [.int .i64 x.f0, .int .i64 x.f1, v2, v3] ∧ k26.R 26 w base ok v2 x.f2 ∧ k26.R 26 w base ok v3 x.f3 := by
  obtain ⟨_, _, rfl, rfl, ⟨_, _, rfl, rfl, ⟨_, _, rfl, ⟨v2, rfl, g2⟩, ⟨v3, rfl, g3⟩⟩⟩⟩ := h
  exact ⟨v2, v3, rfl, g2, g3⟩
theorem k81_mkM (w : World) (base : Nat) (ok : Nat → Prop) (x : S81) {v2 : Value} (g2 : k26.R 26 w base ok v2 x.f2) {v3 : Value} (g3 : k26.R 26 w base ok v3 x.f3) : k81.M w base ok x [.int .i64 x.f0, .int .i64 x.f1, v2, v3] := ⟨[.int .i64 x.f0], [.int .i64 x.f1, v2, v3], rfl, rfl, ⟨[.int .i64 x.f1], [v2, v3], rfl, rfl, ⟨[v2], [v3], rfl, ⟨v2, rfl, g2⟩, ⟨v3, rfl, g3⟩⟩⟩⟩
def rd_T81 (xs : List S81) (i : Int) : S81 := xs.getD i.toNat z81
theorem at_T81 {w : World} {A : Option Addr} {n : Nat} {xs : List S81} (h : Kd.C k81 w A n xs) (i : Int) (h0 : 0 ≤ i) (h1 : i < n) : ∃ ad A2 c2 A3 c3, A = some ad ∧ w.cell? (ad.add (i.toNat * 4)) = some (.int .i64 (rd_T81 xs i).f0) ∧ w.cell? ⟨(ad.add (i.toNat * 4)).block, (ad.add (i.toNat * 4)).off + 1, none⟩ = some (.int .i64 (rd_T81 xs i).f1) ∧ w.cell? ⟨(ad.add (i.toNat * 4)).block, (ad.add (i.toNat * 4)).off + 2, none⟩ = some (.slice A2 (rd_T81 xs i).f2.length c2) ∧ w.cell? ⟨(ad.add (i.toNat * 4)).block, (ad.add (i.toNat * 4)).off + 3, none⟩ = some (.slice A3 (rd_T81 xs i).f3.length c3) ∧ (rd_T81 xs i).f2.length ≤ c2 ∧ k26.C w A2 (rd_T81 xs i).f2.length (rd_T81 xs i).f2 ∧ (rd_T81 xs i).f3.length ≤ c3 ∧ k26.C w A3 (rd_T81 xs i).f3.length (rd_T81 xs i).f3 := by
  obtain ⟨ad, c, e, _, hK, hc0⟩ := Kd.C_get h z81 i h0 h1
  have hc : ∀ j u, c[j]? = some u → w.cell? (ad.add (i.toNat * 4 + j)) = some u := hc0
  obtain ⟨A2, c2, A3, c3, rfl, l2, g2, l3, g3⟩ := k81_open hK
  exact ⟨ad, A2, c2, A3, c3, e, hc 0 _ rfl, by rw [← add_field _ _ 1 (by omega)]; exact hc 1 _ rfl, by rw [← add_field _ _ 2 (by omega)]; exact hc 2 _ rfl, by rw [← add_field _ _ 3 (by omega)]; exact hc 3 _ rfl, l2, g2, l3, g3⟩
structure S44 where
  f0 : (List S81)
structure S45 where
  f0 : (List S81)
structure S80 where
  f0 : Int
  f1 : Int
  f2 : (List S26)
  f3 : (List S26)
structure S90 where
  f0 : Int
  f1 : Int
  f2 : Int
  f3 : Int
  f4 : Int
  f5 : (List S26)
structure S91 where
  f0 : Int
  f1 : Int
  f2 : Int
  f3 : Int
  f4 : Int
  f5 : (List S26)
structure S92 where
  f0 : S91
structure S93 where
  f0 : S91
structure S100 where
  f0 : (List Int)
  f1 : Int
structure S101 where
  f0 : (List Int)
  f1 : Int
structure S116 where
  f0 : Int
  f1 : Int
  f2 : (List S86)
  f3 : (List S86)
structure S122 where
  f0 : Int
  f1 : Int
  f2 : (List S26)
structure S123 where
  f0 : Int
  f1 : Int
  f2 : (List S26)
end Go.Proofs.Ytlpckbleokoiiaa.Print
end

section
/- Plain facts on what is computed with enough rounds: tests, binds, loops over a list that fill, check or count. Conditions: those of each theorem. -/
set_option linter.unusedVariables false
set_option linter.unusedSimpArgs false
namespace Go.Proofs.Ytlpckbleokoiiaa.Pure
open Go.RowKit Go.Proofs.YtlpckbleokoiiaaW.PrintWords Go.Proofs.YtlpckbleokoiiaaW.PrintLast Go.Proofs.YtlpckbleokoiiaaW.PrintMore
theorem ev_if_pos {c : Prop} [Decidable c] {α : Type} {A B : Nat → Option α} {r : α} (hc : c) (h : Ev A r) : Ev (fun k => if c then A k else B k) r := Ev.congr (fun k => if_pos hc) h
theorem ev_if_neg {c : Prop} [Decidable c] {α : Type} {A B : Nat → Option α} {r : α} (hc : ¬ c) (h : Ev B r) : Ev (fun k => if c then A k else B k) r := Ev.congr (fun k => if_neg hc) h
theorem ev_bindc {α β : Type} {o : Option α} {f : Nat → α → Option β} {a : α} {r : β} (h : o = some a) (k : Ev (fun n => f n a) r) : Ev (fun n => o.bind (f n)) r := Ev.congr (fun n => by rw [h]; rfl) k
theorem ev_eq {α : Type} {g : Nat → Option α} {r r' : α} (h : Ev g r) (e : r = r') : Ev g r' := e ▸ h
/-- From the last index down. -/
theorem ev_down {β : Type} {L : Nat → Nat → Option β} {R : Nat → β} (n : Nat) (hend : Ev (L n) (R n)) (hstep : ∀ i, i < n → Ev (L (i + 1)) (R (i + 1)) → Ev (L i) (R i)) : Ev (L 0) (R 0) := by
  have : ∀ j, j ≤ n → Ev (L (n - j)) (R (n - j)) := by
    intro j
    induction j with
    | zero => intro _; exact hend
    | succ j ih =>
      intro hj
      have h := ih (by omega)
      rw [show n - j = n - (j + 1) + 1 by omega] at h
      exact hstep _ (by omega) h
  have h := this n (Nat.le_refl n)
  rw [Nat.sub_self] at h
  exact h
/-- As ev_down, for all states at once. -/
theorem ev_downs {σ β : Type} {L : σ → Nat → Nat → Option β} {R : σ → Nat → β} {I : σ → Nat → Prop} (n : Nat) (hend : ∀ s, I s n → Ev (L s n) (R s n)) (hstep : ∀ i, i < n → (∀ s, I s (i + 1) → Ev (L s (i + 1)) (R s (i + 1))) → ∀ s, I s i → Ev (L s i) (R s i)) : ∀ s, I s 0 → Ev (L s 0) (R s 0) := by
  have : ∀ j, j ≤ n → ∀ s, I s (n - j) → Ev (L s (n - j)) (R s (n - j)) := by
    intro j
    induction j with
    | zero => intro _; exact hend
    | succ j ih =>
      intro hj
      have h := ih (by omega)
      rw [show n - j = n - (j + 1) + 1 by omega] at h
      exact hstep _ (by omega) h
  have h := this n (Nat.le_refl n)
  rw [Nat.sub_self] at h
  exact h
theorem w64 {n : Int} (h : -9223372036854775808 ≤ n) (h' : n ≤ 9223372036854775807) : wrap64 n = n := by unfold wrap64; omega
theorem w64s {i n : Nat} (h : i < n) (hn : n ≤ 9223372036854775807) : wrap64 ((i : Int) + 1) = ((i + 1 : Nat) : Int) := by unfold wrap64; omega
theorem set_fill {α β : Type} (f : α → β) (z : β) (xs : List α) (i : Nat) (hi : i < xs.length) : ((xs.take i).map f ++ List.replicate (xs.length - i) z).set i (f xs[i]) = (xs.take (i + 1)).map f ++ List.replicate (xs.length - (i + 1)) z := by
  have hl : ((xs.take i).map f).length = i := by simp; omega
  rw [List.set_append_right _ _ (by omega), hl, Nat.sub_self, show xs.length - i = (xs.length - (i + 1)) + 1 by omega, List.replicate_succ, List.set_cons_zero, List.take_succ_eq_append_getElem hi, List.map_append, List.append_assoc]
  rfl
/-- A list that is made of zeros and filled, one by one. -/
theorem ev_fill {α β : Type} (xs : List α) (f : α → β) (z : β) (L : Nat → List β → Int → Option (List β))
    (hend : ∀ k o, L (k + 1) o (xs.length : Int) = some o)
    (hstep : ∀ i (hi : i < xs.length) (o : List β), o.length = xs.length → ∀ r, Ev (fun k => L k (o.set i (f xs[i])) ((i + 1 : Nat) : Int)) r → Ev (fun k => L k o (i : Int)) r) :
    Ev (fun k => L k (List.replicate xs.length z) 0) (xs.map f) := by
  have h := ev_down (L := fun i k => L k ((xs.take i).map f ++ List.replicate (xs.length - i) z) (i : Int)) (R := fun _ => xs.map f) xs.length ?_ ?_
  · simpa using h
  · simp only [Nat.sub_self, List.replicate_zero, List.append_nil, List.take_length]
    exact Ev.step (fun k => hend k _) (Ev.now _)
  · intro i hi h
    refine hstep i hi _ ?_ _ ?_
    · simp; omega
    · rw [set_fill f z xs i hi]
      exact h
/-- A check of all elements. -/
theorem ev_all {α : Type} (xs : List α) (p : α → Bool) (L : Nat → Int → Option Bool)
    (hend : ∀ k, L (k + 1) (xs.length : Int) = some true)
    (hyes : ∀ i (hi : i < xs.length), p xs[i] = true → ∀ r, Ev (fun k => L k ((i + 1 : Nat) : Int)) r → Ev (fun k => L k (i : Int)) r)
    (hno : ∀ i (hi : i < xs.length), p xs[i] = false → Ev (fun k => L k (i : Int)) false) : Ev (fun k => L k 0) (xs.all p) := by
  have h := ev_down (L := fun i k => L k (i : Int)) (R := fun i => (xs.drop i).all p) xs.length ?_ ?_
  · simpa using h
  · rw [List.drop_length]
    exact Ev.step (f := fun _ => some true) hend (Ev.now true)
  · intro i hi h
    rw [List.drop_eq_getElem_cons hi, List.all_cons]
    cases e : p xs[i] with
    | true => rw [Bool.true_and]; exact hyes i hi e _ h
    | false => rw [Bool.false_and]; exact hno i hi e
/-- The sum of the elements' weights. -/
def sumW {α : Type} (w : α → Nat) (xs : List α) : Nat := (xs.map w).sum
theorem sumW_nil {α : Type} (w : α → Nat) : sumW w [] = 0 := rfl
theorem sumW_cons {α : Type} (w : α → Nat) (x : α) (xs : List α) : sumW w (x :: xs) = w x + sumW w xs := by unfold sumW; rw [List.map_cons, List.sum_cons]
theorem sumW_mem {α : Type} (w : α → Nat) {xs : List α} {x : α} (h : x ∈ xs) : w x ≤ sumW w xs := by
  induction xs with
  | nil => cases h
  | cons y ys ih =>
    rw [sumW_cons]
    rcases List.mem_cons.1 h with rfl | h
    · omega
    · have := ih h; omega
/-- What is left of a budget: -1 where it does not last. -/
def lft (left : Int) (n : Nat) : Int := if (n : Int) ≤ left then left - n else -1
theorem ev_sz {α : Type} (xs : List α) (w : α → Nat) (L : Nat → Int → Int → Option Int)
    (hend : ∀ k left, L (k + 1) left (xs.length : Int) = some left)
    (hyes : ∀ i (hi : i < xs.length) (left : Int), 0 ≤ left → left ≤ 1048576 → (w xs[i] : Int) ≤ left → ∀ r, Ev (fun k => L k (left - w xs[i]) ((i + 1 : Nat) : Int)) r → Ev (fun k => L k left (i : Int)) r)
    (hno : ∀ i (hi : i < xs.length) (left : Int), 0 ≤ left → left ≤ 1048576 → left < (w xs[i] : Int) → Ev (fun k => L k left (i : Int)) (-1)) (left : Int) (h0 : 0 ≤ left) (h1 : left ≤ 1048576) : Ev (fun k => L k left 0) (lft left (sumW w xs)) := by
  have h := ev_downs (L := fun s i k => L k s (i : Int)) (R := fun s i => lft s (sumW w (xs.drop i))) (I := fun s _ => 0 ≤ s ∧ s ≤ 1048576) xs.length ?_ ?_ left ⟨h0, h1⟩
  · simpa using h
  · intro s hs
    rw [List.drop_length, sumW_nil]
    refine Ev.step (f := fun _ => some s) (fun k => hend k s) (ev_eq (Ev.now s) ?_)
    unfold lft
    rw [if_pos (by omega)]
    simp
  · intro i hi ih s hs
    rw [List.drop_eq_getElem_cons hi, sumW_cons]
    by_cases h : (w xs[i] : Int) ≤ s
    · have hh := ih (s - w xs[i]) ⟨by omega, by omega⟩
      have e : lft (s - w xs[i]) (sumW w (xs.drop (i + 1))) = lft s (w xs[i] + sumW w (xs.drop (i + 1))) := by
        unfold lft
        split <;> split <;> omega
      rw [e] at hh
      exact hyes i hi s hs.1 hs.2 h _ hh
    · have e : lft s (w xs[i] + sumW w (xs.drop (i + 1))) = -1 := by
        unfold lft
        rw [if_neg (by omega)]
      rw [e]
      exact hno i hi s hs.1 hs.2 (by omega)
theorem lft_neg {left : Int} {n : Nat} (h : left < n) : lft left n = -1 := by unfold lft; rw [if_neg (by omega)]
theorem lft_ok {left : Int} {n : Nat} (h : (n : Int) ≤ left) : lft left n = left - n := by unfold lft; rw [if_pos h]
theorem getD_at {α : Type} {xs : List α} {z : α} {i : Nat} (hi : i < xs.length) : xs.getD ((i : Int)).toNat z = xs[i] := by
  rw [Int.toNat_natCast, List.getD_eq_getElem?_getD, List.getElem?_eq_getElem hi]
  rfl
/-- A number of 64 bits. -/
def I64 (x : Int) : Prop := -9223372036854775808 ≤ x ∧ x ≤ 9223372036854775807
end Go.Proofs.Ytlpckbleokoiiaa.Pure
end

section
/- The function laws_szUint32S of the program as a Lean function, and that the machine's call does what it says. Conditions: those of the theorem. -/
namespace Go.Proofs.Ytlpckbleokoiiaa.Print
open Go.RowKit Go.Proofs.YtlpckbleokoiiaaW.PrintWords Go.Proofs.YtlpckbleokoiiaaW.PrintLast Go.Proofs.YtlpckbleokoiiaaW.PrintMore
attribute [local go_sem] max2_int min2_int max_two min_two max_three min_three max_four min_four
set_option linter.unusedVariables false
set_option linter.unusedSimpArgs false
def laws_szUint32S.f (l0 : List Int) (a1 : Int) : Option (Int) := if (wrap64 (a1 - (l0.length : Int))) < 0 then (some (-1)) else (some (wrap64 (a1 - (l0.length : Int))))
set_option maxHeartbeats 8000000 in
set_option maxRecDepth 100000 in
theorem laws_szUint32S.calls (A0 : Option Addr) (c0 : Nat) (l0 : List Int) (a1 : Int) (r : Int) (w : World) (hr0 : Kd.C (Kd.int .u32) w A0 l0.length l0) (hc0 : l0.length ≤ c0) (h : laws_szUint32S.f l0 a1 = some r) :
    Calls Try.prog 99 #[.slice A0 l0.length c0, .int .i64 a1] w fun e w' => e = .returned (.int .i64 r) ∧ Drawn0 w w' := by
  have HR0 := Aside0.mk hr0
  have HC0 := Aside0.mk hc0
  clear hr0 hc0
  have H : (if (wrap64 (a1 - (l0.length : Int))) < 0 then (some (-1)) else (some (wrap64 (a1 - (l0.length : Int))))) = some r := h
  clear h
  by_cases c3 : (wrap64 (a1 - (l0.length : Int))) < 0
  · rw [if_pos c3] at H
    have c3b0 : decide ((wrap64 (a1 - (l0.length : Int))) < 0) = true := decide_eq_true c3
    clear c3
    obtain rfl := Option.some.inj H
    go_enter Try.func99, Try.ntmps99
    go_wp2
    go_ret
    exact ⟨by first | rfl | (simp; done) | (simp [*]; done), by repeat (first | exact Drawn0.refl _ | apply Drawn0.step)⟩
  · rw [if_neg c3] at H
    have c3b0 : decide ((wrap64 (a1 - (l0.length : Int))) < 0) = false := decide_eq_false c3
    clear c3
    obtain rfl := Option.some.inj H
    go_enter Try.func99, Try.ntmps99
    go_wp2
    go_ret
    exact ⟨by first | rfl | (simp; done) | (simp [*]; done), by repeat (first | exact Drawn0.refl _ | apply Drawn0.step)⟩
end Go.Proofs.Ytlpckbleokoiiaa.Print
end

section
/- The function laws_szRat of the program as a Lean function, and that the machine's call does what it says. Conditions: those of the theorem. -/
namespace Go.Proofs.Ytlpckbleokoiiaa.Print
open Go.RowKit Go.Proofs.YtlpckbleokoiiaaW.PrintWords Go.Proofs.YtlpckbleokoiiaaW.PrintLast Go.Proofs.YtlpckbleokoiiaaW.PrintMore
attribute [local go_sem] max2_int min2_int max_two min_two max_three min_three max_four min_four
set_option linter.unusedVariables false
set_option linter.unusedSimpArgs false
def laws_szRat.f (a0_0 : Bool) (l0_1 : List Int) (l0_2 : List Int) (a1 : Int) : Option (Int) := (laws_szUint32S.f l0_1 a1).bind fun t102 => (if t102 < 0 then (some (-1)) else ((laws_szUint32S.f l0_2 t102).bind fun t103 => (if t103 < 0 then (some (-1)) else (some t103))))
set_option maxHeartbeats 8000000 in
set_option maxRecDepth 100000 in
theorem laws_szRat.calls (a0_0 : Bool) (A0_1 : Option Addr) (c0_1 : Nat) (l0_1 : List Int) (A0_2 : Option Addr) (c0_2 : Nat) (l0_2 : List Int) (a1 : Int) (r : Int) (w : World) (hr0_1 : Kd.C (Kd.int .u32) w A0_1 l0_1.length l0_1) (hc0_1 : l0_1.length ≤ c0_1) (hr0_2 : Kd.C (Kd.int .u32) w A0_2 l0_2.length l0_2) (hc0_2 : l0_2.length ≤ c0_2) (h : laws_szRat.f a0_0 l0_1 l0_2 a1 = some r) :
    Calls Try.prog 61 #[.agg #[.bool a0_0, .slice A0_1 l0_1.length c0_1, .slice A0_2 l0_2.length c0_2], .int .i64 a1] w fun e w' => e = .returned (.int .i64 r) ∧ Below w.heap.size w w' := by
  have hu86 := Try.underlying86
  have HR0_1 := Aside0.mk hr0_1
  have HC0_1 := Aside0.mk hc0_1
  clear hr0_1 hc0_1
  have HR0_2 := Aside0.mk hr0_2
  have HC0_2 := Aside0.mk hc0_2
  clear hr0_2 hc0_2
  have HB := Aside0.mk (Below.refl w.heap.size w)
  have H : ((laws_szUint32S.f l0_1 a1).bind fun t102 => (if t102 < 0 then (some (-1)) else ((laws_szUint32S.f l0_2 t102).bind fun t103 => (if t103 < 0 then (some (-1)) else (some t103))))) = some r := h
  clear h
  replace H := Option.bind_eq_some_iff.mp H
  obtain ⟨t102, A30, H⟩ := H
  replace H : (if t102 < 0 then (some (-1)) else ((laws_szUint32S.f l0_2 t102).bind fun t103 => (if t103 < 0 then (some (-1)) else (some t103)))) = some r := H
  have A3 := Aside0.mk A30
  clear A30
  by_cases c4 : t102 < 0
  · rw [if_pos c4] at H
    have c4b0 : decide (t102 < 0) = true := decide_eq_true c4
    clear c4
    obtain rfl := Option.some.inj H
    go_enter Try.func61, Try.ntmps61
    go_wp2_with (first | ((with_reducible refine gate_dst (N := 2) rfl ?_); refine box_event ?hg (N := 2) ?hd (cs := #[.bool a0_0, .slice A0_1 l0_1.length c0_1, .slice A0_2 l0_2.length c0_2]) (t := 86) ?hr ?_; (case hd => rfl); (case hg => rfl); (case hr => first | (go_simp; done) | (go_simp; rfl)); intro gb101 hg w5 hbox hb; have n0_ := Aside0.mk (below_step (by repeat (first | (with_reducible first | exact HB.out | apply below_alloc | apply pw_below_drewN | apply below_drew1) | exact HB.out)) hb); have n1_ := Aside0.mk (hbox); have n2_ := Aside0.mk ((by rw [hg]; exact (below_size (by repeat (first | (with_reducible first | exact HB.out | apply below_alloc | apply pw_below_drewN | apply below_drew1) | exact HB.out))) : w.heap.size ≤ gb101)); have n3_ := Aside0.mk ((by rw [hg]; exact (below_size (by repeat (first | (with_reducible first | exact HB.out | apply below_alloc | apply pw_below_drewN | apply below_drew1) | exact HB.out))) : w.heap.size ≤ gb101)); clear HB; have HB := n0_; have BK101 := n1_; have GW101 := n2_; have GE101 := n3_; clear n0_ n1_ n2_ n3_; clear hb hbox hg; have hcz6_0 : w5.cell? ⟨gb101, 0, none⟩ = some (.bool a0_0) := (blk_cell BK101.out 0).trans rfl; have hcz6_1 : w5.cell? ⟨gb101, 1, none⟩ = some (.slice A0_1 l0_1.length c0_1) := (blk_cell BK101.out 1).trans rfl; have hcz6_2 : w5.cell? ⟨gb101, 2, none⟩ = some (.slice A0_2 l0_2.length c0_2) := (blk_cell BK101.out 2).trans rfl; have hfz6_0 := blk_frozen BK101.out 0; have hfz6_1 := blk_frozen BK101.out 1; have hfz6_2 := blk_frozen BK101.out 2) | ((with_reducible refine gate_callee (f := 99) rfl ?_); refine goesL_ (some 8) rfl rfl Try.func99 (by kernel_rfl) rfl #[.slice A0_1 l0_1.length c0_1, .int .i64 a1] rfl (by (try simp only [List.map_toArray, List.map_cons, List.map_nil]); first | done | rfl | (simp only [List.length_drop, List.length_take]; rfl)) ?_; (with_reducible refine (laws_szUint32S.calls _ _ l0_1 a1 t102 _ ?side1 ?side2 A3.out).mono ?_); (case side1 => repeat (first | exact (Kd.C_below HR0_1.out HB.out) | (with_reducible refine Kd.C_alloc ?_ _) | (with_reducible refine Kd.C_drewN ?_ _) | (with_reducible refine Kd.C_drew ?_))); (case side2 => exact HC0_1.out); rintro e w' ⟨rfl, ⟨nd, rfl⟩⟩; refine ⟨_, rfl, ?_⟩))
    go_ret
    exact ⟨by first | rfl | (simp [errW_none, errW_some] <;> rfl) | (simp [*, errW_none, errW_some] <;> rfl), by repeat (first | (with_reducible first | exact HB.out | apply below_alloc | apply pw_below_drewN | apply below_drew1 | refine below_set ?_ GE101.out) | exact HB.out)⟩
  · rw [if_neg c4] at H
    have c4b0 : decide (t102 < 0) = false := decide_eq_false c4
    clear c4
    replace H := Option.bind_eq_some_iff.mp H
    obtain ⟨t103, A70, H⟩ := H
    replace H : (if t103 < 0 then (some (-1)) else (some t103)) = some r := H
    have A7 := Aside0.mk A70
    clear A70
    by_cases c8 : t103 < 0
    · rw [if_pos c8] at H
      have c8b0 : decide (t103 < 0) = true := decide_eq_true c8
      clear c8
      obtain rfl := Option.some.inj H
      go_enter Try.func61, Try.ntmps61
      go_wp2_with (first | ((with_reducible refine gate_dst (N := 2) rfl ?_); refine box_event ?hg (N := 2) ?hd (cs := #[.bool a0_0, .slice A0_1 l0_1.length c0_1, .slice A0_2 l0_2.length c0_2]) (t := 86) ?hr ?_; (case hd => rfl); (case hg => rfl); (case hr => first | (go_simp; done) | (go_simp; rfl)); intro gb101 hg w9 hbox hb; have n0_ := Aside0.mk (below_step (by repeat (first | (with_reducible first | exact HB.out | apply below_alloc | apply pw_below_drewN | apply below_drew1) | exact HB.out)) hb); have n1_ := Aside0.mk (hbox); have n2_ := Aside0.mk ((by rw [hg]; exact (below_size (by repeat (first | (with_reducible first | exact HB.out | apply below_alloc | apply pw_below_drewN | apply below_drew1) | exact HB.out))) : w.heap.size ≤ gb101)); have n3_ := Aside0.mk ((by rw [hg]; exact (below_size (by repeat (first | (with_reducible first | exact HB.out | apply below_alloc | apply pw_below_drewN | apply below_drew1) | exact HB.out))) : w.heap.size ≤ gb101)); clear HB; have HB := n0_; have BK101 := n1_; have GW101 := n2_; have GE101 := n3_; clear n0_ n1_ n2_ n3_; clear hb hbox hg; have hcz10_0 : w9.cell? ⟨gb101, 0, none⟩ = some (.bool a0_0) := (blk_cell BK101.out 0).trans rfl; have hcz10_1 : w9.cell? ⟨gb101, 1, none⟩ = some (.slice A0_1 l0_1.length c0_1) := (blk_cell BK101.out 1).trans rfl; have hcz10_2 : w9.cell? ⟨gb101, 2, none⟩ = some (.slice A0_2 l0_2.length c0_2) := (blk_cell BK101.out 2).trans rfl; have hfz10_0 := blk_frozen BK101.out 0; have hfz10_1 := blk_frozen BK101.out 1; have hfz10_2 := blk_frozen BK101.out 2) | ((with_reducible refine gate_callee (f := 99) rfl ?_); refine goesL_ (some 8) rfl rfl Try.func99 (by kernel_rfl) rfl #[.slice A0_1 l0_1.length c0_1, .int .i64 a1] rfl (by (try simp only [List.map_toArray, List.map_cons, List.map_nil]); first | done | rfl | (simp only [List.length_drop, List.length_take]; rfl)) ?_; (with_reducible refine (laws_szUint32S.calls _ _ l0_1 a1 t102 _ ?side1 ?side2 A3.out).mono ?_); (case side1 => repeat (first | exact (Kd.C_below HR0_1.out HB.out) | (with_reducible refine Kd.C_alloc ?_ _) | (with_reducible refine Kd.C_drewN ?_ _) | (with_reducible refine Kd.C_drew ?_))); (case side2 => exact HC0_1.out); rintro e w' ⟨rfl, ⟨nd, rfl⟩⟩; refine ⟨_, rfl, ?_⟩) | ((with_reducible refine gate_callee (f := 99) rfl ?_); refine goesL_ (some 14) rfl rfl Try.func99 (by kernel_rfl) rfl #[.slice A0_2 l0_2.length c0_2, .int .i64 t102] rfl (by (try simp only [List.map_toArray, List.map_cons, List.map_nil]); first | done | rfl | (simp only [List.length_drop, List.length_take]; rfl)) ?_; (with_reducible refine (laws_szUint32S.calls _ _ l0_2 t102 t103 _ ?side1 ?side2 A7.out).mono ?_); (case side1 => repeat (first | exact (Kd.C_below HR0_2.out (by repeat (first | (with_reducible first | exact HB.out | apply below_alloc | apply pw_below_drewN | apply below_drew1 | refine below_set ?_ GE101.out) | exact HB.out))) | (with_reducible refine Kd.C_alloc ?_ _) | (with_reducible refine Kd.C_drewN ?_ _) | (with_reducible refine Kd.C_drew ?_))); (case side2 => exact HC0_2.out); rintro e w' ⟨rfl, ⟨nd, rfl⟩⟩; refine ⟨_, rfl, ?_⟩))
      go_ret
      exact ⟨by first | rfl | (simp [errW_none, errW_some] <;> rfl) | (simp [*, errW_none, errW_some] <;> rfl), by repeat (first | (with_reducible first | exact HB.out | apply below_alloc | apply pw_below_drewN | apply below_drew1 | refine below_set ?_ GE101.out) | exact HB.out)⟩
    · rw [if_neg c8] at H
      have c8b0 : decide (t103 < 0) = false := decide_eq_false c8
      clear c8
      obtain rfl := Option.some.inj H
      go_enter Try.func61, Try.ntmps61
      go_wp2_with (first | ((with_reducible refine gate_dst (N := 2) rfl ?_); refine box_event ?hg (N := 2) ?hd (cs := #[.bool a0_0, .slice A0_1 l0_1.length c0_1, .slice A0_2 l0_2.length c0_2]) (t := 86) ?hr ?_; (case hd => rfl); (case hg => rfl); (case hr => first | (go_simp; done) | (go_simp; rfl)); intro gb101 hg w11 hbox hb; have n0_ := Aside0.mk (below_step (by repeat (first | (with_reducible first | exact HB.out | apply below_alloc | apply pw_below_drewN | apply below_drew1) | exact HB.out)) hb); have n1_ := Aside0.mk (hbox); have n2_ := Aside0.mk ((by rw [hg]; exact (below_size (by repeat (first | (with_reducible first | exact HB.out | apply below_alloc | apply pw_below_drewN | apply below_drew1) | exact HB.out))) : w.heap.size ≤ gb101)); have n3_ := Aside0.mk ((by rw [hg]; exact (below_size (by repeat (first | (with_reducible first | exact HB.out | apply below_alloc | apply pw_below_drewN | apply below_drew1) | exact HB.out))) : w.heap.size ≤ gb101)); clear HB; have HB := n0_; have BK101 := n1_; have GW101 := n2_; have GE101 := n3_; clear n0_ n1_ n2_ n3_; clear hb hbox hg; have hcz12_0 : w11.cell? ⟨gb101, 0, none⟩ = some (.bool a0_0) := (blk_cell BK101.out 0).trans rfl; have hcz12_1 : w11.cell? ⟨gb101, 1, none⟩ = some (.slice A0_1 l0_1.length c0_1) := (blk_cell BK101.out 1).trans rfl; have hcz12_2 : w11.cell? ⟨gb101, 2, none⟩ = some (.slice A0_2 l0_2.length c0_2) := (blk_cell BK101.out 2).trans rfl; have hfz12_0 := blk_frozen BK101.out 0; have hfz12_1 := blk_frozen BK101.out 1; have hfz12_2 := blk_frozen BK101.out 2) | ((with_reducible refine gate_callee (f := 99) rfl ?_); refine goesL_ (some 8) rfl rfl Try.func99 (by kernel_rfl) rfl #[.slice A0_1 l0_1.length c0_1, .int .i64 a1] rfl (by (try simp only [List.map_toArray, List.map_cons, List.map_nil]); first | done | rfl | (simp only [List.length_drop, List.length_take]; rfl)) ?_; (with_reducible refine (laws_szUint32S.calls _ _ l0_1 a1 t102 _ ?side1 ?side2 A3.out).mono ?_); (case side1 => repeat (first | exact (Kd.C_below HR0_1.out HB.out) | (with_reducible refine Kd.C_alloc ?_ _) | (with_reducible refine Kd.C_drewN ?_ _) | (with_reducible refine Kd.C_drew ?_))); (case side2 => exact HC0_1.out); rintro e w' ⟨rfl, ⟨nd, rfl⟩⟩; refine ⟨_, rfl, ?_⟩) | ((with_reducible refine gate_callee (f := 99) rfl ?_); refine goesL_ (some 14) rfl rfl Try.func99 (by kernel_rfl) rfl #[.slice A0_2 l0_2.length c0_2, .int .i64 t102] rfl (by (try simp only [List.map_toArray, List.map_cons, List.map_nil]); first | done | rfl | (simp only [List.length_drop, List.length_take]; rfl)) ?_; (with_reducible refine (laws_szUint32S.calls _ _ l0_2 t102 t103 _ ?side1 ?side2 A7.out).mono ?_); (case side1 => repeat (first | exact (Kd.C_below HR0_2.out (by repeat (first | (with_reducible first | exact HB.out | apply below_alloc | apply pw_below_drewN | apply below_drew1 | refine below_set ?_ GE101.out) | exact HB.out))) | (with_reducible refine Kd.C_alloc ?_ _) | (with_reducible refine Kd.C_drewN ?_ _) | (with_reducible refine Kd.C_drew ?_))); (case side2 => exact HC0_2.out); rintro e w' ⟨rfl, ⟨nd, rfl⟩⟩; refine ⟨_, rfl, ?_⟩))
      go_ret
      exact ⟨by first | rfl | (simp [errW_none, errW_some] <;> rfl) | (simp [*, errW_none, errW_some] <;> rfl), by repeat (first | (with_reducible first | exact HB.out | apply below_alloc | apply pw_below_drewN | apply below_drew1 | refine below_set ?_ GE101.out) | exact HB.out)⟩
end Go.Proofs.Ytlpckbleokoiiaa.Print
end

section
/- The function laws_szRatS of the program as a Lean function, and that the machine's call does what it says. Conditions: those of the theorem. -/
namespace Go.Proofs.Ytlpckbleokoiiaa.Print
open Go.RowKit Go.Proofs.YtlpckbleokoiiaaW.PrintWords Go.Proofs.YtlpckbleokoiiaaW.PrintLast Go.Proofs.YtlpckbleokoiiaaW.PrintMore
attribute [local go_sem] max2_int min2_int max_two min_two max_three min_three max_four min_four
set_option linter.unusedVariables false
set_option linter.unusedSimpArgs false
def laws_szRatS.l0 : Nat → List (S86) → Int → Int → Option (Int)
  | 0, _, _, _ => none
  | k + 1, x0, x1, x5 => if x5 < (x0.length : Int) then (if 0 ≤ x5 then ((laws_szRat.f ((rd_T86 x0 x5).f0) ((rd_T86 x0 x5).f1) ((rd_T86 x0 x5).f2) x1).bind fun t105 => (if t105 < 0 then (some (-1)) else (laws_szRatS.l0 k x0 t105 (wrap64 (x5 + 1))))) else (none)) else (some x1)
def laws_szRatS.f (k : Nat) (l0 : List (S86)) (a1 : Int) : Option (Int) := if (wrap64 (a1 - (l0.length : Int))) < 0 then (some (-1)) else (laws_szRatS.l0 k l0 (wrap64 (a1 - (l0.length : Int))) 0)
theorem laws_szRatS.mono_l : ∀ k, (∀ y0 y1 y2, LeO (laws_szRatS.l0 k y0 y1 y2) (laws_szRatS.l0 (k + 1) y0 y1 y2))
  | 0 => fun _ _ _ r h => by simp [laws_szRatS.l0] at h
  | k + 1 => by
    have ih0 := laws_szRatS.mono_l k
    · intro y0 y1 y2
      unfold laws_szRatS.l0
      repeat' first
      | (with_reducible exact ih0 _ _ _)
      | (with_reducible exact LeO.refl _)
      | (with_reducible exact LeO.none _)
      | (with_reducible refine LeO.ite ?_ ?_)
      | (with_reducible refine LeO.bind ?_ (fun _ => ?_))
      | exact ih0 _ _ _
      | exact LeO.none _
      | refine LeO.ite ?_ ?_
      | refine LeO.bind ?_ (fun _ => ?_)
theorem laws_szRatS.mono : ∀ a0 a1 k, LeO (laws_szRatS.f k a0 a1) (laws_szRatS.f (k + 1) a0 a1) := by
  intro a0 a1 k
  have ih0 := laws_szRatS.mono_l k
  unfold laws_szRatS.f
  repeat' first
      | (with_reducible exact ih0 _ _ _)
      | (with_reducible exact LeO.refl _)
      | (with_reducible exact LeO.none _)
      | (with_reducible refine LeO.ite ?_ ?_)
      | (with_reducible refine LeO.bind ?_ (fun _ => ?_))
      | exact ih0 _ _ _
      | exact LeO.none _
      | refine LeO.ite ?_ ?_
      | refine LeO.bind ?_ (fun _ => ?_)
set_option maxHeartbeats 8000000 in
set_option maxRecDepth 100000 in
theorem laws_szRatS.calls (k : Nat) (A0 : Option Addr) (c0 : Nat) (l0 : List (S86)) (a1 : Int) (r : Int) (w : World) (hr0 : Kd.C k86 w A0 l0.length l0) (hc0 : l0.length ≤ c0) (h : laws_szRatS.f k l0 a1 = some r) :
    Calls Try.prog 23 #[.slice A0 l0.length c0, .int .i64 a1] w fun e w' => e = .returned (.int .i64 r) ∧ Below w.heap.size w w' := by
  have hu86 := Try.underlying86
  have HR0 := Aside0.mk hr0
  have HC0 := Aside0.mk hc0
  clear hr0 hc0
  have HB := Aside0.mk (Below.refl w.heap.size w)
  have H : (if (wrap64 (a1 - (l0.length : Int))) < 0 then (some (-1)) else (laws_szRatS.l0 k l0 (wrap64 (a1 - (l0.length : Int))) 0)) = some r := h
  clear h
  by_cases c3 : (wrap64 (a1 - (l0.length : Int))) < 0
  · rw [if_pos c3] at H
    have c3b0 : decide ((wrap64 (a1 - (l0.length : Int))) < 0) = true := decide_eq_true c3
    clear c3
    obtain rfl := Option.some.inj H
    go_enter Try.func23, Try.ntmps23
    go_wp2
    go_ret
    exact ⟨by first | rfl | (simp [errW_none, errW_some] <;> rfl) | (simp [*, errW_none, errW_some] <;> rfl), by repeat (first | (with_reducible first | exact HB.out | apply below_alloc | apply pw_below_drewN | apply below_drew1) | exact HB.out)⟩
  · rw [if_neg c3] at H
    have c3b0 : decide ((wrap64 (a1 - (l0.length : Int))) < 0) = false := decide_eq_false c3
    clear c3
    have H' := Aside0.mk H
    clear H
    go_enter Try.func23, Try.ntmps23
    go_wp2
    go_loopg [1, 5] k (fun kq v1 v5 w' => ∃ (x1_1 : Int) (x5_1 : Int), v1 = .int .i64 x1_1 ∧ v5 = .int .i64 x5_1 ∧ Aside0 (laws_szRatS.l0 kq l0 x1_1 x5_1 = some r) ∧ Aside0 (kq ≤ k) ∧ Aside0 (Below w.heap.size w w'))
    case atStart => exact ⟨(wrap64 (a1 - (l0.length : Int))), (0), (by first | rfl | (simp; done) | (simp [*]; done)), (by first | rfl | (simp; done) | (simp [*]; done)), H', ⟨Nat.le_refl _⟩, ⟨by repeat (first | (with_reducible first | exact HB.out | apply below_alloc | apply pw_below_drewN | apply below_drew1) | exact HB.out)⟩⟩
    case round =>
      clear H'
      try clear c2
      try clear p2
      try clear c3
      try clear c3b0
      obtain ⟨x1_1, x5_1, rfl, rfl, HA, HK1, HB⟩ := hrel
      cases gk with
      | zero => exact absurd HA.out (by simp [laws_szRatS.l0])
      | succ k1 =>
        have H := HA.out
        clear HA
        simp only [laws_szRatS.l0] at H
        by_cases c4 : x5_1 < (l0.length : Int)
        · rw [if_pos c4] at H
          have c4b0 : decide (x5_1 < (l0.length : Int)) = true := decide_eq_true c4
          clear c4
          by_cases c5 : 0 ≤ x5_1
          · rw [if_pos c5] at H
            have c5b0 : decide (0 ≤ x5_1) = true := decide_eq_true c5
            clear c5
            replace H := Option.bind_eq_some_iff.mp H
            obtain ⟨t105, A60, H⟩ := H
            replace H : (if t105 < 0 then (some (-1)) else (laws_szRatS.l0 k1 l0 t105 (wrap64 (x5_1 + 1)))) = some r := H
            have A6 := Aside0.mk A60
            clear A60
            by_cases c7 : t105 < 0
            · rw [if_pos c7] at H
              have c7b0 : decide (t105 < 0) = true := decide_eq_true c7
              clear c7
              obtain rfl := Option.some.inj H
              have p104 : 0 ≤ (x5_1 : Int) := of_decide_eq_true (by first | (with_reducible assumption) | assumption)
              have q104 : x5_1 < (l0.length : Int) := of_decide_eq_true (by first | (with_reducible assumption) | assumption)
              obtain ⟨ad104, A104_1, c104_1, A104_2, c104_2, e104, hx104_0, hx104_1, hx104_2, hl104_1, hi104_1, hl104_2, hi104_2⟩ := at_T86 HR0.out x5_1 p104 q104
              cases e104
              replace hx104_0 := (HB.out.cell (World.block_lt_of_cell? w _ hx104_0)).trans hx104_0
              replace hx104_1 := (HB.out.cell (World.block_lt_of_cell? w _ hx104_1)).trans hx104_1
              replace hx104_2 := (HB.out.cell (World.block_lt_of_cell? w _ hx104_2)).trans hx104_2
              have HR104_1 := Aside0.mk hi104_1
              have HC104_1 := Aside0.mk hl104_1
              clear hi104_1 hl104_1
              have HR104_2 := Aside0.mk hi104_2
              have HC104_2 := Aside0.mk hl104_2
              clear hi104_2 hl104_2
              replace p104 := eq_true p104
              replace q104 := eq_true q104
              go_wp2_with (first | ((with_reducible refine gate_callee (f := 61) rfl ?_); refine goesL_ (some 23) rfl rfl Try.func61 (by kernel_rfl) rfl #[.agg #[.bool ((rd_T86 l0 x5_1).f0), .slice A104_1 ((rd_T86 l0 x5_1).f1).length c104_1, .slice A104_2 ((rd_T86 l0 x5_1).f2).length c104_2], .int .i64 x1_1] rfl (by (try simp only [List.map_toArray, List.map_cons, List.map_nil]); first | done | rfl | (simp only [List.length_drop, List.length_take]; rfl)) ?_; (with_reducible refine (laws_szRat.calls ((rd_T86 l0 x5_1).f0) _ _ ((rd_T86 l0 x5_1).f1) _ _ ((rd_T86 l0 x5_1).f2) x1_1 t105 _ ?side1 ?side2 ?side3 ?side4 A6.out).mono ?_); (case side1 => repeat (first | exact (Kd.C_below HR104_1.out HB.out) | (with_reducible refine Kd.C_alloc ?_ _) | (with_reducible refine Kd.C_drewN ?_ _) | (with_reducible refine Kd.C_drew ?_))); (case side2 => exact HC104_1.out); (case side3 => repeat (first | exact (Kd.C_below HR104_2.out HB.out) | (with_reducible refine Kd.C_alloc ?_ _) | (with_reducible refine Kd.C_drewN ?_ _) | (with_reducible refine Kd.C_drew ?_))); (case side4 => exact HC104_2.out); rintro e w8 ⟨rfl, hb⟩; refine ⟨_, rfl, ?_⟩; have n0_ := Aside0.mk (below_step (by repeat (first | (with_reducible first | exact HB.out | apply below_alloc | apply pw_below_drewN | apply below_drew1) | exact HB.out)) hb); clear HB; have HB := n0_; clear n0_; (try clear hb); (try clear hb2); (try clear hk); (try clear hi)))
              go_ret
              exact ⟨by first | rfl | (simp [errW_none, errW_some] <;> rfl) | (simp [*, errW_none, errW_some] <;> rfl), by repeat (first | (with_reducible first | exact HB.out | apply below_alloc | apply pw_below_drewN | apply below_drew1) | exact HB.out)⟩
            · rw [if_neg c7] at H
              have c7b0 : decide (t105 < 0) = false := decide_eq_false c7
              clear c7
              have H' := Aside0.mk H
              clear H
              have p104 : 0 ≤ (x5_1 : Int) := of_decide_eq_true (by first | (with_reducible assumption) | assumption)
              have q104 : x5_1 < (l0.length : Int) := of_decide_eq_true (by first | (with_reducible assumption) | assumption)
              obtain ⟨ad104, A104_1, c104_1, A104_2, c104_2, e104, hx104_0, hx104_1, hx104_2, hl104_1, hi104_1, hl104_2, hi104_2⟩ := at_T86 HR0.out x5_1 p104 q104
              cases e104
              replace hx104_0 := (HB.out.cell (World.block_lt_of_cell? w _ hx104_0)).trans hx104_0
              replace hx104_1 := (HB.out.cell (World.block_lt_of_cell? w _ hx104_1)).trans hx104_1
              replace hx104_2 := (HB.out.cell (World.block_lt_of_cell? w _ hx104_2)).trans hx104_2
              have HR104_1 := Aside0.mk hi104_1
              have HC104_1 := Aside0.mk hl104_1
              clear hi104_1 hl104_1
              have HR104_2 := Aside0.mk hi104_2
              have HC104_2 := Aside0.mk hl104_2
              clear hi104_2 hl104_2
              replace p104 := eq_true p104
              replace q104 := eq_true q104
              go_wp2_with (first | ((with_reducible refine gate_callee (f := 61) rfl ?_); refine goesL_ (some 23) rfl rfl Try.func61 (by kernel_rfl) rfl #[.agg #[.bool ((rd_T86 l0 x5_1).f0), .slice A104_1 ((rd_T86 l0 x5_1).f1).length c104_1, .slice A104_2 ((rd_T86 l0 x5_1).f2).length c104_2], .int .i64 x1_1] rfl (by (try simp only [List.map_toArray, List.map_cons, List.map_nil]); first | done | rfl | (simp only [List.length_drop, List.length_take]; rfl)) ?_; (with_reducible refine (laws_szRat.calls ((rd_T86 l0 x5_1).f0) _ _ ((rd_T86 l0 x5_1).f1) _ _ ((rd_T86 l0 x5_1).f2) x1_1 t105 _ ?side1 ?side2 ?side3 ?side4 A6.out).mono ?_); (case side1 => repeat (first | exact (Kd.C_below HR104_1.out HB.out) | (with_reducible refine Kd.C_alloc ?_ _) | (with_reducible refine Kd.C_drewN ?_ _) | (with_reducible refine Kd.C_drew ?_))); (case side2 => exact HC104_1.out); (case side3 => repeat (first | exact (Kd.C_below HR104_2.out HB.out) | (with_reducible refine Kd.C_alloc ?_ _) | (with_reducible refine Kd.C_drewN ?_ _) | (with_reducible refine Kd.C_drew ?_))); (case side4 => exact HC104_2.out); rintro e w9 ⟨rfl, hb⟩; refine ⟨_, rfl, ?_⟩; have n0_ := Aside0.mk (below_step (by repeat (first | (with_reducible first | exact HB.out | apply below_alloc | apply pw_below_drewN | apply below_drew1) | exact HB.out)) hb); clear HB; have HB := n0_; clear n0_; (try clear hb); (try clear hb2); (try clear hk); (try clear hi)))
              go_roundg k1
              case measure => have := HK1.out; omega
              case rel => exact ⟨(t105), (wrap64 (x5_1 + 1)), (by first | rfl | (simp; done) | (simp [*]; done)), (by first | rfl | (simp; done) | (simp [*]; done)), H', ⟨by have := HK1.out; omega⟩, ⟨by repeat (first | (with_reducible first | exact HB.out | apply below_alloc | apply pw_below_drewN | apply below_drew1) | exact HB.out)⟩⟩
          · rw [if_neg c5] at H
            exact absurd H (by simp)
        · rw [if_neg c4] at H
          have c4b0 : decide (x5_1 < (l0.length : Int)) = false := decide_eq_false c4
          clear c4
          obtain rfl := Option.some.inj H
          go_wp2
          go_ret
          exact ⟨by first | rfl | (simp [errW_none, errW_some] <;> rfl) | (simp [*, errW_none, errW_some] <;> rfl), by repeat (first | (with_reducible first | exact HB.out | apply below_alloc | apply pw_below_drewN | apply below_drew1) | exact HB.out)⟩
end Go.Proofs.Ytlpckbleokoiiaa.Print
end

section
/- The function laws_toUint32S of the program as a Lean function, and that the machine's call does what it says. Conditions: those of the theorem. -/
namespace Go.Proofs.Ytlpckbleokoiiaa.Print
open Go.RowKit Go.Proofs.YtlpckbleokoiiaaW.PrintWords Go.Proofs.YtlpckbleokoiiaaW.PrintLast Go.Proofs.YtlpckbleokoiiaaW.PrintMore
attribute [local go_sem] max2_int min2_int max_two min_two max_three min_three max_four min_four
set_option linter.unusedVariables false
set_option linter.unusedSimpArgs false
def laws_toUint32S.l0 : Nat → List Int → List Int → Int → Option (List Int)
  | 0, _, _, _ => none
  | k + 1, x0, x3, x4 => if x4 < (x0.length : Int) then (if 0 ≤ x4 then (if x4 < (x3.length : Int) then (laws_toUint32S.l0 k x0 (x3.set (x4 : Int).toNat (rd x0 x4)) (wrap64 (x4 + 1))) else (none)) else (none)) else (some x3)
def laws_toUint32S.f (k : Nat) (l0 : List Int) : Option (List Int) := if 0 ≤ (l0.length : Int) then (if ((l0.length : Int) : Int).toNat ≤ 70368744177664 then (laws_toUint32S.l0 k l0 (List.replicate ((l0.length : Int) : Int).toNat 0) 0) else (none)) else (none)
theorem laws_toUint32S.mono_l : ∀ k, (∀ y0 y1 y2, LeO (laws_toUint32S.l0 k y0 y1 y2) (laws_toUint32S.l0 (k + 1) y0 y1 y2))
  | 0 => fun _ _ _ r h => by simp [laws_toUint32S.l0] at h
  | k + 1 => by
    have ih0 := laws_toUint32S.mono_l k
    · intro y0 y1 y2
      unfold laws_toUint32S.l0
      repeat' first
      | (with_reducible exact ih0 _ _ _)
      | (with_reducible exact LeO.refl _)
      | (with_reducible exact LeO.none _)
      | (with_reducible refine LeO.ite ?_ ?_)
      | (with_reducible refine LeO.bind ?_ (fun _ => ?_))
      | exact ih0 _ _ _
      | exact LeO.none _
      | refine LeO.ite ?_ ?_
      | refine LeO.bind ?_ (fun _ => ?_)
theorem laws_toUint32S.mono : ∀ a0 k, LeO (laws_toUint32S.f k a0) (laws_toUint32S.f (k + 1) a0) := by
  intro a0 k
  have ih0 := laws_toUint32S.mono_l k
  unfold laws_toUint32S.f
  repeat' first
      | (with_reducible exact ih0 _ _ _)
      | (with_reducible exact LeO.refl _)
      | (with_reducible exact LeO.none _)
      | (with_reducible refine LeO.ite ?_ ?_)
      | (with_reducible refine LeO.bind ?_ (fun _ => ?_))
      | exact ih0 _ _ _
      | exact LeO.none _
      | refine LeO.ite ?_ ?_
      | refine LeO.bind ?_ (fun _ => ?_)
set_option maxHeartbeats 8000000 in
set_option maxRecDepth 100000 in
theorem laws_toUint32S.calls (k : Nat) (A0 : Option Addr) (c0 : Nat) (l0 : List Int) (r : List Int) (w : World) (hr0 : Kd.C (Kd.int .u32) w A0 l0.length l0) (hc0 : l0.length ≤ c0) (h : laws_toUint32S.f k l0 = some r) :
    Calls Try.prog 102 #[.slice A0 l0.length c0] w fun e w' => ∃ v0_ : Value, e = .returned (v0_) ∧ Kd.R (Kd.int .u32) 73 w' w.heap.size (fun _ => True) v0_ r ∧ Below w.heap.size w w' := by
  have HR0 := Aside0.mk hr0
  have HC0 := Aside0.mk hc0
  clear hr0 hc0
  have HB := Aside0.mk (Below.refl w.heap.size w)
  have H : (if 0 ≤ (l0.length : Int) then (if ((l0.length : Int) : Int).toNat ≤ 70368744177664 then (laws_toUint32S.l0 k l0 (List.replicate ((l0.length : Int) : Int).toNat 0) 0) else (none)) else (none)) = some r := h
  clear h
  by_cases c2 : 0 ≤ (l0.length : Int)
  · rw [if_pos c2] at H
    have c2b0 := eq_true c2
    have c2b1 : decide (0 ≤ (l0.length : Int)) = true := decide_eq_true c2
    clear c2
    by_cases c3 : ((l0.length : Int) : Int).toNat ≤ 70368744177664
    · rw [if_pos c3] at H
      have c3b0 := eq_true c3
      have c3b1 : decide (((l0.length : Int) : Int).toNat ≤ 70368744177664) = true := decide_eq_true c3
      clear c3
      obtain ⟨y132, hy132⟩ : ∃ y_ : List Int, y_ = (List.replicate ((l0.length : Int) : Int).toNat 0) := ⟨_, rfl⟩
      replace H : (laws_toUint32S.l0 k l0 y132 0) = some r := by first | (rw [hy132]; with_reducible exact H) | (have H2_ := (Option.bind_some _ _).symm.trans H; rw [hy132]; with_reducible exact H2_) | (have H2_ := (Option.bind_some _ _).symm.trans H; with_reducible exact H2_) | with_reducible exact H | (rw [hy132]; exact H) | exact H
      have Ny132 := Aside0.mk hy132
      clear hy132
      have H' := Aside0.mk H
      clear H
      go_enter Try.func102, Try.ntmps102
      go_wp2_with (first | ((with_reducible refine gate_dst (N := 7) rfl ?_); refine Kd.R_make (Kd.int .u32) _ 73 rfl (N := 7) rfl 24 _ _ rfl (l0.length : Int) rfl rfl Try.underlying24 (.int .u32 0) 4 info73 rfl (by decide) (by omega) 0 (ok := fun _ => True) (okp := fun _ => True) rfl (fun _ hk => hk) trivial (of_decide_eq_true (by first | (with_reducible assumption) | assumption)) (Nat.le_trans (Nat.mul_le_mul_right _ (of_decide_eq_true (by first | (with_reducible assumption) | assumption) : (l0.length : Int).toNat ≤ 70368744177664)) (by omega)) (Below.refl _ _) (Nat.le_refl _) ?_; intro v133 w4 ho5 hb hg_ hnew_; clear hg_ hnew_; (first | rw [← Ny132.out] at ho5 | (simp only [Int.reduceToNat] at ho5; rw [← Ny132.out] at ho5)); have n0_ := Aside0.mk (Kd.R_lower ho5 (below_size (by repeat (first | (with_reducible first | exact HB.out | apply below_alloc | apply pw_below_drewN | apply below_drew1) | exact HB.out)))); have n1_ := Aside0.mk (below_step (by repeat (first | (with_reducible first | exact HB.out | apply below_alloc | apply pw_below_drewN | apply below_drew1) | exact HB.out)) hb); clear HB; have HO134 := n0_; have HB := n1_; clear n0_ n1_; clear hb ho5))
      go_loopg [4] k (fun kq v4 w' => ∃ (x3_1 : List Int) (x4_1 : Int), v4 = .int .i64 x4_1 ∧ Aside0 (laws_toUint32S.l0 kq l0 x3_1 x4_1 = some r) ∧ Aside0 (kq ≤ k) ∧ Aside0 (Kd.R (Kd.int .u32) 73 w' w.heap.size (fun _ => True) v133 x3_1) ∧ Aside0 (Below w.heap.size w w'))
      case atStart => exact ⟨(y132), (0), (by first | rfl | (simp; done) | (simp [*]; done)), H', ⟨Nat.le_refl _⟩, ⟨by (with_reducible repeat (first | apply Kd.R_alloc | apply Kd.R_drewN | apply Kd.R_drew)); exact HO134.out⟩, ⟨by repeat (first | (with_reducible first | exact HB.out | apply below_alloc | apply pw_below_drewN | apply below_drew1) | exact HB.out)⟩⟩
      case round =>
        clear H'
        try clear c1
        try clear c2
        try clear c2b0
        try clear c2b1
        try clear p2
        try clear c3
        try clear c3b0
        try clear c3b1
        obtain ⟨x3_1, x4_1, rfl, HA, HK1, HO_3, HB⟩ := hrel
        cases gk with
        | zero => exact absurd HA.out (by simp [laws_toUint32S.l0])
        | succ k1 =>
          have H := HA.out
          clear HA
          simp only [laws_toUint32S.l0] at H
          by_cases c6 : x4_1 < (l0.length : Int)
          · rw [if_pos c6] at H
            have c6b0 : decide (x4_1 < (l0.length : Int)) = true := decide_eq_true c6
            clear c6
            by_cases c7 : 0 ≤ x4_1
            · rw [if_pos c7] at H
              have c7b0 : decide (0 ≤ x4_1) = true := decide_eq_true c7
              clear c7
              by_cases c8 : x4_1 < (x3_1.length : Int)
              · rw [if_pos c8] at H
                have c8b0 : decide (x4_1 < (x3_1.length : Int)) = true := decide_eq_true c8
                clear c8
                obtain ⟨y136, hy136⟩ : ∃ y_ : List Int, y_ = (x3_1.set (x4_1 : Int).toNat (rd l0 x4_1)) := ⟨_, rfl⟩
                replace H : (laws_toUint32S.l0 k1 l0 y136 (wrap64 (x4_1 + 1))) = some r := by first | (rw [hy136]; with_reducible exact H) | (have H2_ := (Option.bind_some _ _).symm.trans H; rw [hy136]; with_reducible exact H2_) | (have H2_ := (Option.bind_some _ _).symm.trans H; with_reducible exact H2_) | with_reducible exact H | (rw [hy136]; exact H) | exact H
                have Ny136 := Aside0.mk hy136
                clear hy136
                have H' := Aside0.mk H
                clear H
                have p135 : 0 ≤ (x4_1 : Int) := of_decide_eq_true (by first | (with_reducible assumption) | assumption)
                have q135 : x4_1 < (l0.length : Int) := of_decide_eq_true (by first | (with_reducible assumption) | assumption)
                obtain ⟨ad135, e135, hx135_0⟩ := Kd.at_int HR0.out x4_1 p135 q135
                cases e135
                replace hx135_0 := (HB.out.cell (World.block_lt_of_cell? w _ hx135_0)).trans hx135_0
                replace p135 := eq_true p135
                replace q135 := eq_true q135
                have p9 : 0 ≤ (x4_1 : Int) := of_decide_eq_true (by first | (with_reducible assumption) | assumption)
                have q9 : (x4_1 : Int) < ((x3_1.length : Int) : Int) := of_decide_eq_true (by first | (with_reducible assumption) | assumption)
                obtain ⟨go9, co9, eo9, gb9, gl9, cl9, HG9⟩ := Kd.R_form HO_3.out (by omega)
                (first | cases eo9 | (injection eo9 with ea_ en_ ec_; (first | subst ea_ | (injection ea_ with ea_; subst ea_)); subst ec_; clear en_))
                have GB9 := Aside0.mk gb9
                have GG9 := Aside0.mk HG9
                clear gb9 gl9 HG9
                obtain ⟨hx9_0, hf9_0⟩ := Kd.R_celln 0 HO_3.out (x4_1 : Int) p9 q9
                replace p9 := eq_true p9
                replace q9 := eq_true q9
                have HP10 := Kd.R_putg HO_3.out (x4_1 : Int) (rd l0 x4_1)
                go_wp2_with (first | ((with_reducible refine gate_store (t := 73) (p := 20) rfl ?_); refine store_event (t := 73) (p := 20) (v := ?vo_w11) (w1 := (wr.setCell ⟨go9, (x4_1 : Int).toNat, none⟩ (.int .u32 (rd l0 x4_1)))) ?hg ?ho ?hn ?hr ?_; (case ho => rfl); (case hg => rfl); (case hn => rfl); (case hr => first | (go_simp; done) | (go_simp; rfl)); intro w11 hw; have hg : wr.grownBy w11 (some go9) := (by rw [hw]; exact HP10.2); have hp_ : Kd.R (Kd.int .u32) 73 w11 w.heap.size (fun _ => True) (.slice (some ⟨go9, 0, none⟩) x3_1.length co9) y136 := (by rw [hw, Ny136.out]; exact HP10.1); clear HP10; have n0_ := Aside0.mk (hp_); have n1_ := Aside0.mk ((by rw [hw]; exact below_set (HB.out) GB9.out : Below w.heap.size w w11)); clear HO_3; clear HB; have HO_3 := n0_; have HB := n1_; clear n0_ n1_; clear hg hw hp_))
                go_roundg k1
                case measure => have := HK1.out; omega
                case rel => exact ⟨(y136), (wrap64 (x4_1 + 1)), (by first | rfl | (simp; done) | (simp [*]; done)), H', ⟨by have := HK1.out; omega⟩, ⟨by (with_reducible repeat (first | apply Kd.R_alloc | apply Kd.R_drewN | apply Kd.R_drew)); exact HO_3.out⟩, ⟨by repeat (first | (with_reducible first | exact HB.out | apply below_alloc | apply pw_below_drewN | apply below_drew1) | exact HB.out)⟩⟩
              · rw [if_neg c8] at H
                exact absurd H (by simp)
            · rw [if_neg c7] at H
              exact absurd H (by simp)
          · rw [if_neg c6] at H
            have c6b0 : decide (x4_1 < (l0.length : Int)) = false := decide_eq_false c6
            clear c6
            obtain rfl := Option.some.inj H
            go_wp2
            go_ret
            exact ⟨_, by first | rfl | (simp [errW_none, errW_some] <;> rfl) | (simp [*, errW_none, errW_some] <;> rfl), by (with_reducible repeat (first | apply Kd.R_alloc | apply Kd.R_drewN | apply Kd.R_drew)); exact HO_3.out, by repeat (first | (with_reducible first | exact HB.out | apply below_alloc | apply pw_below_drewN | apply below_drew1) | exact HB.out)⟩
    · rw [if_neg c3] at H
      exact absurd H (by simp)
  · rw [if_neg c2] at H
    exact absurd H (by simp)
end Go.Proofs.Ytlpckbleokoiiaa.Print
end

section
/- The function laws_toRat of the program as a Lean function, and that the machine's call does what it says. Conditions: those of the theorem. -/
namespace Go.Proofs.Ytlpckbleokoiiaa.Print
open Go.RowKit Go.Proofs.YtlpckbleokoiiaaW.PrintWords Go.Proofs.YtlpckbleokoiiaaW.PrintLast Go.Proofs.YtlpckbleokoiiaaW.PrintMore
attribute [local go_sem] max2_int min2_int max_two min_two max_three min_three max_four min_four
set_option linter.unusedVariables false
set_option linter.unusedSimpArgs false
def laws_toRat.f (k : Nat) (a0_0 : Bool) (l0_1 : List Int) (l0_2 : List Int) : Option (Bool × List Int × List Int) := (laws_toUint32S.f k l0_1).bind fun t140 => ((laws_toUint32S.f k l0_2).bind fun t143 => (some (a0_0, t140, t143)))
theorem laws_toRat.mono : ∀ a0 a1 a2 k, LeO (laws_toRat.f k a0 a1 a2) (laws_toRat.f (k + 1) a0 a1 a2) := by
  intro a0 a1 a2 k
  unfold laws_toRat.f
  repeat' first
      | (with_reducible exact laws_toUint32S.mono _ _)
      | (with_reducible exact LeO.refl _)
      | (with_reducible exact LeO.none _)
      | (with_reducible refine LeO.ite ?_ ?_)
      | (with_reducible refine LeO.bind ?_ (fun _ => ?_))
      | exact laws_toUint32S.mono _ _
      | exact LeO.none _
      | refine LeO.ite ?_ ?_
      | refine LeO.bind ?_ (fun _ => ?_)
set_option maxHeartbeats 8000000 in
set_option maxRecDepth 100000 in
theorem laws_toRat.calls (k : Nat) (a0_0 : Bool) (A0_1 : Option Addr) (c0_1 : Nat) (l0_1 : List Int) (A0_2 : Option Addr) (c0_2 : Nat) (l0_2 : List Int) (r1 : Bool) (r2 : List Int) (r3 : List Int) (w : World) (hr0_1 : Kd.C (Kd.int .u32) w A0_1 l0_1.length l0_1) (hc0_1 : l0_1.length ≤ c0_1) (hr0_2 : Kd.C (Kd.int .u32) w A0_2 l0_2.length l0_2) (hc0_2 : l0_2.length ≤ c0_2) (h : laws_toRat.f k a0_0 l0_1 l0_2 = some (r1, r2, r3)) :
    Calls Try.prog 64 #[.agg #[.bool a0_0, .slice A0_1 l0_1.length c0_1, .slice A0_2 l0_2.length c0_2]] w fun e w' => ∃ v1_ v2_ : Value, e = .returned (.agg #[.bool r1, v1_, v2_]) ∧ Kd.R (Kd.int .u32) 73 w' w.heap.size (fun k_ => some k_ ≠ (v2_ : Value).ownBlock) v1_ r2 ∧ Kd.R (Kd.int .u32) 73 w' w.heap.size (fun k_ => some k_ ≠ (v1_ : Value).ownBlock) v2_ r3 ∧ Below w.heap.size w w' := by
  have hu86 := Try.underlying86
  have hu26 := Try.underlying26
  have HR0_1 := Aside0.mk hr0_1
  have HC0_1 := Aside0.mk hc0_1
  clear hr0_1 hc0_1
  have HR0_2 := Aside0.mk hr0_2
  have HC0_2 := Aside0.mk hc0_2
  clear hr0_2 hc0_2
  have HB := Aside0.mk (Below.refl w.heap.size w)
  have H : ((laws_toUint32S.f k l0_1).bind fun t140 => ((laws_toUint32S.f k l0_2).bind fun t143 => (some (a0_0, t140, t143)))) = some (r1, r2, r3) := h
  clear h
  replace H := Option.bind_eq_some_iff.mp H
  obtain ⟨t140, A20, H⟩ := H
  replace H : ((laws_toUint32S.f k l0_2).bind fun t143 => (some (a0_0, t140, t143))) = some (r1, r2, r3) := H
  have A2 := Aside0.mk A20
  clear A20
  replace H := Option.bind_eq_some_iff.mp H
  obtain ⟨t143, A30, H⟩ := H
  replace H : (some (a0_0, t140, t143)) = some (r1, r2, r3) := H
  have A3 := Aside0.mk A30
  clear A30
  simp only [Option.some.injEq, Prod.mk.injEq] at H
  obtain ⟨rfl, rfl, rfl⟩ := H
  go_enter Try.func64, Try.ntmps64
  go_wp2_with (first | ((with_reducible refine gate_dst (N := 1) rfl ?_); refine box_event ?hg (N := 1) ?hd (cs := #[.bool a0_0, .slice A0_1 l0_1.length c0_1, .slice A0_2 l0_2.length c0_2]) (t := 86) ?hr ?_; (case hd => rfl); (case hg => rfl); (case hr => first | (go_simp; done) | (go_simp; rfl)); intro gb137 hg w4 hbox hb; have n0_ := Aside0.mk (below_step (by repeat (first | (with_reducible first | exact HB.out | apply below_alloc | apply pw_below_drewN | apply below_drew1) | exact HB.out)) hb); have n1_ := Aside0.mk (hbox); have n2_ := Aside0.mk ((by rw [hg]; exact (below_size (by repeat (first | (with_reducible first | exact HB.out | apply below_alloc | apply pw_below_drewN | apply below_drew1) | exact HB.out))) : w.heap.size ≤ gb137)); have n3_ := Aside0.mk ((by rw [hg]; exact (below_size (by repeat (first | (with_reducible first | exact HB.out | apply below_alloc | apply pw_below_drewN | apply below_drew1) | exact HB.out))) : w.heap.size ≤ gb137)); clear HB; have HB := n0_; have BK137 := n1_; have GW137 := n2_; have GE137 := n3_; clear n0_ n1_ n2_ n3_; clear hb hbox hg) | ((with_reducible refine gate_dst (N := 2) rfl ?_); refine box_event ?hg (N := 2) ?hd (cs := #[.bool false, .slice none 0 0, .slice none 0 0]) (t := 26) ?hr ?_; (case hd => rfl); (case hg => rfl); (case hr => first | (go_simp; done) | (go_simp; rfl)); intro gb138 hg w5 hbox hb; have n0_ := Aside0.mk (blk_below (g := gb137) (o := .cells #[.bool a0_0, .slice A0_1 l0_1.length c0_1, .slice A0_2 l0_2.length c0_2] 86 (0, 0)) (by (with_reducible repeat (first | refine blk_drewN ?_ _ | refine blk_drew ?_ | refine blk_alloc ?_ _)); exact BK137.out) hb); have n1_ := Aside0.mk (below_step (by repeat (first | (with_reducible first | exact HB.out | apply below_alloc | apply pw_below_drewN | apply below_drew1 | refine below_set ?_ GE137.out) | exact HB.out)) hb); have n2_ := Aside0.mk (hbox); have n3_ := Aside0.mk ((by rw [hg]; exact (below_size (by repeat (first | (with_reducible first | exact HB.out | apply below_alloc | apply pw_below_drewN | apply below_drew1 | refine below_set ?_ GE137.out) | exact HB.out))) : w.heap.size ≤ gb138)); have n4_ := Aside0.mk ((by rw [hg]; exact (below_size (by repeat (first | (with_reducible first | exact HB.out | apply below_alloc | apply pw_below_drewN | apply below_drew1 | refine below_set ?_ GE137.out) | exact HB.out))) : w.heap.size ≤ gb138)); have n5_ := Aside0.mk ((by rw [hg]; exact Nat.ne_of_lt (blk_lt (g := gb137) (o := .cells #[.bool a0_0, .slice A0_1 l0_1.length c0_1, .slice A0_2 l0_2.length c0_2] 86 (0, 0)) (by (with_reducible repeat (first | refine blk_drewN ?_ _ | refine blk_drew ?_ | refine blk_alloc ?_ _)); exact BK137.out)) : gb137 ≠ gb138)); have n6_ := Aside0.mk ((by rw [hg]; exact Nat.ne_of_gt (blk_lt (g := gb137) (o := .cells #[.bool a0_0, .slice A0_1 l0_1.length c0_1, .slice A0_2 l0_2.length c0_2] 86 (0, 0)) (by (with_reducible repeat (first | refine blk_drewN ?_ _ | refine blk_drew ?_ | refine blk_alloc ?_ _)); exact BK137.out)) : gb138 ≠ gb137)); clear BK137; clear HB; have BK137 := n0_; have HB := n1_; have BK138 := n2_; have GW138 := n3_; have GE138 := n4_; have NB137_138 := n5_; have NB138_137 := n6_; clear n0_ n1_ n2_ n3_ n4_ n5_ n6_; clear hb hbox hg) | ((with_reducible refine gate_dst (N := 3) rfl ?_); refine box_event ?hg (N := 3) ?hd (cs := #[.bool false, .slice none 0 0, .slice none 0 0]) (t := 26) ?hr ?_; (case hd => rfl); (case hg => rfl); (case hr => first | (go_simp; done) | (go_simp; rfl)); intro gb139 hg w6 hbox hb; have n0_ := Aside0.mk (blk_below (g := gb137) (o := .cells #[.bool a0_0, .slice A0_1 l0_1.length c0_1, .slice A0_2 l0_2.length c0_2] 86 (0, 0)) (by (with_reducible repeat (first | refine blk_drewN ?_ _ | refine blk_drew ?_ | refine blk_alloc ?_ _)); exact BK137.out) hb); have n1_ := Aside0.mk (blk_below (g := gb138) (o := .cells #[.bool false, .slice none 0 0, .slice none 0 0] 26 (0, 0)) (by (with_reducible repeat (first | refine blk_drewN ?_ _ | refine blk_drew ?_ | refine blk_alloc ?_ _)); exact BK138.out) hb); have n2_ := Aside0.mk (below_step (by repeat (first | (with_reducible first | exact HB.out | apply below_alloc | apply pw_below_drewN | apply below_drew1 | refine below_set ?_ GE137.out | refine below_set ?_ GE138.out) | exact HB.out)) hb); have n3_ := Aside0.mk (hbox); have n4_ := Aside0.mk ((by rw [hg]; exact (below_size (by repeat (first | (with_reducible first | exact HB.out | apply below_alloc | apply pw_below_drewN | apply below_drew1 | refine below_set ?_ GE137.out | refine below_set ?_ GE138.out) | exact HB.out))) : w.heap.size ≤ gb139)); have n5_ := Aside0.mk ((by rw [hg]; exact (below_size (by repeat (first | (with_reducible first | exact HB.out | apply below_alloc | apply pw_below_drewN | apply below_drew1 | refine below_set ?_ GE137.out | refine below_set ?_ GE138.out) | exact HB.out))) : w.heap.size ≤ gb139)); have n6_ := Aside0.mk ((by rw [hg]; exact Nat.ne_of_lt (blk_lt (g := gb137) (o := .cells #[.bool a0_0, .slice A0_1 l0_1.length c0_1, .slice A0_2 l0_2.length c0_2] 86 (0, 0)) (by (with_reducible repeat (first | refine blk_drewN ?_ _ | refine blk_drew ?_ | refine blk_alloc ?_ _)); exact BK137.out)) : gb137 ≠ gb139)); have n7_ := Aside0.mk ((by rw [hg]; exact Nat.ne_of_gt (blk_lt (g := gb137) (o := .cells #[.bool a0_0, .slice A0_1 l0_1.length c0_1, .slice A0_2 l0_2.length c0_2] 86 (0, 0)) (by (with_reducible repeat (first | refine blk_drewN ?_ _ | refine blk_drew ?_ | refine blk_alloc ?_ _)); exact BK137.out)) : gb139 ≠ gb137)); have n8_ := Aside0.mk ((by rw [hg]; exact Nat.ne_of_lt (blk_lt (g := gb138) (o := .cells #[.bool false, .slice none 0 0, .slice none 0 0] 26 (0, 0)) (by (with_reducible repeat (first | refine blk_drewN ?_ _ | refine blk_drew ?_ | refine blk_alloc ?_ _)); exact BK138.out)) : gb138 ≠ gb139)); have n9_ := Aside0.mk ((by rw [hg]; exact Nat.ne_of_gt (blk_lt (g := gb138) (o := .cells #[.bool false, .slice none 0 0, .slice none 0 0] 26 (0, 0)) (by (with_reducible repeat (first | refine blk_drewN ?_ _ | refine blk_drew ?_ | refine blk_alloc ?_ _)); exact BK138.out)) : gb139 ≠ gb138)); clear BK137; clear BK138; clear HB; have BK137 := n0_; have BK138 := n1_; have HB := n2_; have BK139 := n3_; have GW139 := n4_; have GE139 := n5_; have NB137_139 := n6_; have NB139_137 := n7_; have NB138_139 := n8_; have NB139_138 := n9_; clear n0_ n1_ n2_ n3_ n4_ n5_ n6_ n7_ n8_ n9_; clear hb hbox hg; have hnb7 := NB137_138.out; have hnc7 := NB138_137.out; have hnb8 := NB137_139.out; have hnc8 := NB139_137.out; have hcz9_0 : w6.cell? ⟨gb137, 0, none⟩ = some (.bool a0_0) := (blk_cell BK137.out 0).trans rfl; have hcz9_1 : w6.cell? ⟨gb137, 1, none⟩ = some (.slice A0_1 l0_1.length c0_1) := (blk_cell BK137.out 1).trans rfl; have hcz9_2 : w6.cell? ⟨gb137, 2, none⟩ = some (.slice A0_2 l0_2.length c0_2) := (blk_cell BK137.out 2).trans rfl; have hfz9_0 := blk_frozen BK137.out 0; have hfz9_1 := blk_frozen BK137.out 1; have hfz9_2 := blk_frozen BK137.out 2; have hnb10 := NB139_138.out; have hnc10 := NB138_139.out; have hcz11_0 : w6.cell? ⟨gb139, 0, none⟩ = some (.bool false) := (blk_cell BK139.out 0).trans rfl; have hcz11_1 : w6.cell? ⟨gb139, 1, none⟩ = some (.slice none 0 0) := (blk_cell BK139.out 1).trans rfl; have hcz11_2 : w6.cell? ⟨gb139, 2, none⟩ = some (.slice none 0 0) := (blk_cell BK139.out 2).trans rfl; have hfz11_0 := blk_frozen BK139.out 0; have hfz11_1 := blk_frozen BK139.out 1; have hfz11_2 := blk_frozen BK139.out 2) | ((with_reducible refine gate_callee (f := 102) rfl ?_); refine goesL_ (some 9) rfl rfl Try.func102 (by kernel_rfl) rfl #[.slice A0_1 l0_1.length c0_1] rfl (by (try simp only [List.map_toArray, List.map_cons, List.map_nil]); first | done | rfl | (simp only [List.length_drop, List.length_take]; rfl)) ?_; (with_reducible refine (laws_toUint32S.calls k _ _ l0_1 t140 _ ?side1 ?side2 A2.out).mono ?_); (case side1 => exact Kd.C_below HR0_1.out (by repeat (first | (with_reducible first | exact HB.out | apply below_alloc | apply pw_below_drewN | apply below_drew1 | refine below_set ?_ GE137.out | refine below_set ?_ GE138.out | refine below_set ?_ GE139.out) | exact HB.out))); (case side2 => exact HC0_1.out); rintro e w12 ⟨v141, rfl, ho0, hb⟩; refine ⟨_, rfl, ?_⟩; have n0_ := Aside0.mk (Kd.R_lower ho0 (below_size (by repeat (first | (with_reducible first | exact HB.out | apply below_alloc | apply pw_below_drewN | apply below_drew1 | refine below_set ?_ GE137.out | refine below_set ?_ GE138.out | refine below_set ?_ GE139.out) | exact HB.out)))); have n1_ := Aside0.mk (blk_below (g := gb137) (o := .cells #[.bool a0_0, .slice A0_1 l0_1.length c0_1, .slice A0_2 l0_2.length c0_2] 86 (0, 0)) (by (with_reducible repeat (first | refine blk_drewN ?_ _ | refine blk_drew ?_ | refine blk_alloc ?_ _)); refine blk_far ?_ NB137_139.out _; (with_reducible repeat (first | refine blk_drewN ?_ _ | refine blk_drew ?_ | refine blk_alloc ?_ _)); exact BK137.out) hb); have n2_ := Aside0.mk (blk_below (g := gb138) (o := .cells #[.bool false, .slice none 0 0, .slice none 0 0] 26 (0, 0)) (by (with_reducible repeat (first | refine blk_drewN ?_ _ | refine blk_drew ?_ | refine blk_alloc ?_ _)); refine blk_far ?_ NB138_139.out _; (with_reducible repeat (first | refine blk_drewN ?_ _ | refine blk_drew ?_ | refine blk_alloc ?_ _)); exact BK138.out) hb); have n3_ := Aside0.mk (blk_below (g := gb139) (o := .cells #[.bool a0_0, .slice none 0 0, .slice none 0 0] 26 (0, 0)) (by (with_reducible repeat (first | refine blk_drewN ?_ _ | refine blk_drew ?_ | refine blk_alloc ?_ _)); refine blk_put (cs := #[.bool false, .slice none 0 0, .slice none 0 0]) ?_ 0 _ rfl; (with_reducible repeat (first | refine blk_drewN ?_ _ | refine blk_drew ?_ | refine blk_alloc ?_ _)); exact BK139.out) hb); have n4_ := Aside0.mk (below_step (by repeat (first | (with_reducible first | exact HB.out | apply below_alloc | apply pw_below_drewN | apply below_drew1 | refine below_set ?_ GE137.out | refine below_set ?_ GE138.out | refine below_set ?_ GE139.out) | exact HB.out)) hb); clear BK137; clear BK138; clear BK139; clear HB; have HO142 := n0_; have BK137 := n1_; have BK138 := n2_; have BK139 := n3_; have HB := n4_; clear n0_ n1_ n2_ n3_ n4_; (try clear hb); (try clear hb2); (try clear hk); (try clear hi); (try clear ho0); obtain ⟨Ao13, co13, eo13⟩ := Kd.R_slice HO142.out; subst eo13; have hcz14_0 : w12.cell? ⟨gb139, 0, none⟩ = some (.bool a0_0) := (blk_cell BK139.out 0).trans rfl; have hcz14_1 : w12.cell? ⟨gb139, 1, none⟩ = some (.slice none 0 0) := (blk_cell BK139.out 1).trans rfl; have hcz14_2 : w12.cell? ⟨gb139, 2, none⟩ = some (.slice none 0 0) := (blk_cell BK139.out 2).trans rfl; have hfz14_0 := blk_frozen BK139.out 0; have hfz14_1 := blk_frozen BK139.out 1; have hfz14_2 := blk_frozen BK139.out 2; have hcz15_0 : w12.cell? ⟨gb137, 0, none⟩ = some (.bool a0_0) := (blk_cell BK137.out 0).trans rfl; have hcz15_1 : w12.cell? ⟨gb137, 1, none⟩ = some (.slice A0_1 l0_1.length c0_1) := (blk_cell BK137.out 1).trans rfl; have hcz15_2 : w12.cell? ⟨gb137, 2, none⟩ = some (.slice A0_2 l0_2.length c0_2) := (blk_cell BK137.out 2).trans rfl; have hfz15_0 := blk_frozen BK137.out 0; have hfz15_1 := blk_frozen BK137.out 1; have hfz15_2 := blk_frozen BK137.out 2) | ((with_reducible refine gate_callee (f := 102) rfl ?_); refine goesL_ (some 13) rfl rfl Try.func102 (by kernel_rfl) rfl #[.slice A0_2 l0_2.length c0_2] rfl (by (try simp only [List.map_toArray, List.map_cons, List.map_nil]); first | done | rfl | (simp only [List.length_drop, List.length_take]; rfl)) ?_; (with_reducible refine (laws_toUint32S.calls k _ _ l0_2 t143 _ ?side1 ?side2 A3.out).mono ?_); (case side1 => exact Kd.C_below HR0_2.out (by repeat (first | (with_reducible first | exact HB.out | apply below_alloc | apply pw_below_drewN | apply below_drew1 | refine below_set ?_ GE137.out | refine below_set ?_ GE138.out | refine below_set ?_ GE139.out) | exact HB.out))); (case side2 => exact HC0_2.out); rintro e w16 ⟨v144, rfl, ho0, hb⟩; refine ⟨_, rfl, ?_⟩; have n0_ := Aside0.mk (Kd.R_elder' (by (with_reducible repeat (first | apply Kd.R_alloc | apply Kd.R_drewN | apply Kd.R_drew)); exact (Kd.R_mono (Kd.R_far (p := ⟨gb139, 1, none⟩) (Kd.R_types HO142.out BK139.out (by decide)) (fun _ hk => hk.2) (.slice Ao13 t140.length co13)) (fun _ h_ => h_.1))) (Kd.R_base ho0) hb); have n1_ := Aside0.mk (Kd.R_lower (Kd.R_new' ho0 (Kd.R_lt (by (with_reducible repeat (first | apply Kd.R_alloc | apply Kd.R_drewN | apply Kd.R_drew)); exact (Kd.R_mono (Kd.R_far (p := ⟨gb139, 1, none⟩) (Kd.R_types HO142.out BK139.out (by decide)) (fun _ hk => hk.2) (.slice Ao13 t140.length co13)) (fun _ h_ => h_.1))))) (below_size (by repeat (first | (with_reducible first | exact HB.out | apply below_alloc | apply pw_below_drewN | apply below_drew1 | refine below_set ?_ GE137.out | refine below_set ?_ GE138.out | refine below_set ?_ GE139.out) | exact HB.out)))); have n2_ := Aside0.mk (blk_below (g := gb137) (o := .cells #[.bool a0_0, .slice A0_1 l0_1.length c0_1, .slice A0_2 l0_2.length c0_2] 86 (0, 0)) (by (with_reducible repeat (first | refine blk_drewN ?_ _ | refine blk_drew ?_ | refine blk_alloc ?_ _)); refine blk_far ?_ NB137_139.out _; (with_reducible repeat (first | refine blk_drewN ?_ _ | refine blk_drew ?_ | refine blk_alloc ?_ _)); exact BK137.out) hb); have n3_ := Aside0.mk (blk_below (g := gb138) (o := .cells #[.bool false, .slice none 0 0, .slice none 0 0] 26 (0, 0)) (by (with_reducible repeat (first | refine blk_drewN ?_ _ | refine blk_drew ?_ | refine blk_alloc ?_ _)); refine blk_far ?_ NB138_139.out _; (with_reducible repeat (first | refine blk_drewN ?_ _ | refine blk_drew ?_ | refine blk_alloc ?_ _)); exact BK138.out) hb); have n4_ := Aside0.mk (blk_below (g := gb139) (o := .cells #[.bool a0_0, .slice Ao13 t140.length co13, .slice none 0 0] 26 (0, 0)) (by (with_reducible repeat (first | refine blk_drewN ?_ _ | refine blk_drew ?_ | refine blk_alloc ?_ _)); refine blk_put (cs := #[.bool a0_0, .slice none 0 0, .slice none 0 0]) ?_ 1 _ rfl; (with_reducible repeat (first | refine blk_drewN ?_ _ | refine blk_drew ?_ | refine blk_alloc ?_ _)); exact BK139.out) hb); have n5_ := Aside0.mk (below_step (by repeat (first | (with_reducible first | exact HB.out | apply below_alloc | apply pw_below_drewN | apply below_drew1 | refine below_set ?_ GE137.out | refine below_set ?_ GE138.out | refine below_set ?_ GE139.out) | exact HB.out)) hb); clear HO142; clear BK137; clear BK138; clear BK139; clear HB; have HO142 := n0_; have HO145 := n1_; have BK137 := n2_; have BK138 := n3_; have BK139 := n4_; have HB := n5_; clear n0_ n1_ n2_ n3_ n4_ n5_; (try clear hb); (try clear hb2); (try clear hk); (try clear hi); (try clear ho0); obtain ⟨Ao17, co17, eo17⟩ := Kd.R_slice HO145.out; subst eo17; have hcz18_0 : w16.cell? ⟨gb139, 0, none⟩ = some (.bool a0_0) := (blk_cell BK139.out 0).trans rfl; have hcz18_1 : w16.cell? ⟨gb139, 1, none⟩ = some (.slice Ao13 t140.length co13) := (blk_cell BK139.out 1).trans rfl; have hcz18_2 : w16.cell? ⟨gb139, 2, none⟩ = some (.slice none 0 0) := (blk_cell BK139.out 2).trans rfl; have hfz18_0 := blk_frozen BK139.out 0; have hfz18_1 := blk_frozen BK139.out 1; have hfz18_2 := blk_frozen BK139.out 2; have hcz19_0 : w16.cell? ⟨gb138, 0, none⟩ = some (.bool false) := (blk_cell BK138.out 0).trans rfl; have hcz19_1 : w16.cell? ⟨gb138, 1, none⟩ = some (.slice none 0 0) := (blk_cell BK138.out 1).trans rfl; have hcz19_2 : w16.cell? ⟨gb138, 2, none⟩ = some (.slice none 0 0) := (blk_cell BK138.out 2).trans rfl; have hfz19_0 := blk_frozen BK138.out 0; have hfz19_1 := blk_frozen BK138.out 1; have hfz19_2 := blk_frozen BK138.out 2))
  refine bodyPost_ret (results_cell_row rfl _ _ gb138 26 #[.bool a0_0, .slice Ao13 t140.length co13, .slice Ao17 t143.length co17] (0, 0) _ rfl (by (with_reducible repeat (first | refine blk_drewN ?_ _ | refine blk_drew ?_ | refine blk_alloc ?_ _)); refine blk_put (cs := #[.bool a0_0, .slice Ao13 t140.length co13, .slice none 0 0]) ?_ 2 _ rfl; (with_reducible repeat (first | refine blk_drewN ?_ _ | refine blk_drew ?_ | refine blk_alloc ?_ _)); refine blk_put (cs := #[.bool a0_0, .slice none 0 0, .slice none 0 0]) ?_ 1 _ rfl; (with_reducible repeat (first | refine blk_drewN ?_ _ | refine blk_drew ?_ | refine blk_alloc ?_ _)); refine blk_put (cs := #[.bool false, .slice none 0 0, .slice none 0 0]) ?_ 0 _ rfl; (with_reducible repeat (first | refine blk_drewN ?_ _ | refine blk_drew ?_ | refine blk_alloc ?_ _)); refine blk_far ?_ NB138_139.out _; (with_reducible repeat (first | refine blk_drewN ?_ _ | refine blk_drew ?_ | refine blk_alloc ?_ _)); exact BK138.out) Try.underlying26 rfl (by kernel_rfl)) rfl ?_
  exact ⟨_, _, by first | rfl | (simp [errW_none, errW_some] <;> rfl) | (simp [*, errW_none, errW_some] <;> rfl), by (with_reducible repeat (first | apply Kd.R_alloc | apply Kd.R_drewN | apply Kd.R_drew)); exact Kd.R_mono (Kd.R_far (p := ⟨gb138, 2, none⟩) (Kd.R_far (p := ⟨gb138, 1, none⟩) (Kd.R_far (p := ⟨gb138, 0, none⟩) (Kd.R_far (p := ⟨gb139, 2, none⟩) (Kd.R_types (Kd.R_types HO142.out BK139.out (by decide)) BK138.out (by decide)) (fun _ hk => hk.1.2) (.slice Ao17 t143.length co17)) (fun _ hk => hk.2) (.bool a0_0)) (fun _ hk => hk.2) (.slice Ao13 t140.length co13)) (fun _ hk => hk.2) (.slice Ao17 t143.length co17)) (fun _ hk => hk.1.1.2), by (with_reducible repeat (first | apply Kd.R_alloc | apply Kd.R_drewN | apply Kd.R_drew)); exact Kd.R_mono (Kd.R_far (p := ⟨gb138, 2, none⟩) (Kd.R_far (p := ⟨gb138, 1, none⟩) (Kd.R_far (p := ⟨gb138, 0, none⟩) (Kd.R_far (p := ⟨gb139, 2, none⟩) (Kd.R_types (Kd.R_types HO145.out BK139.out (by decide)) BK138.out (by decide)) (fun _ hk => hk.1.2) (.slice Ao17 t143.length co17)) (fun _ hk => hk.2) (.bool a0_0)) (fun _ hk => hk.2) (.slice Ao13 t140.length co13)) (fun _ hk => hk.2) (.slice Ao17 t143.length co17)) (fun _ hk => hk.1.1.2), by repeat (first | (with_reducible first | exact HB.out | apply below_alloc | apply pw_below_drewN | apply below_drew1 | refine below_set ?_ GE137.out | refine below_set ?_ GE138.out | refine below_set ?_ GE139.out) | exact HB.out)⟩
end Go.Proofs.Ytlpckbleokoiiaa.Print
end

section
/- The function laws_toRatS of the program as a Lean function, and that the machine's call does what it says. Conditions: those of the theorem. -/
namespace Go.Proofs.Ytlpckbleokoiiaa.Print
open Go.RowKit Go.Proofs.YtlpckbleokoiiaaW.PrintWords Go.Proofs.YtlpckbleokoiiaaW.PrintLast Go.Proofs.YtlpckbleokoiiaaW.PrintMore
attribute [local go_sem] max2_int min2_int max_two min_two max_three min_three max_four min_four
set_option linter.unusedVariables false
set_option linter.unusedSimpArgs false
def laws_toRatS.l0 : Nat → List (S86) → List (S26) → Int → Option ((List (S26)))
  | 0, _, _, _ => none
  | k + 1, x0, x3, x4 => if x4 < (x0.length : Int) then (if 0 ≤ x4 then ((laws_toRat.f k ((rd_T86 x0 x4).f0) ((rd_T86 x0 x4).f1) ((rd_T86 x0 x4).f2)).bind fun bt150 => (if x4 < (x3.length : Int) then (laws_toRatS.l0 k x0 (x3.set (x4 : Int).toNat (⟨bt150.1, bt150.2.1, bt150.2.2⟩ : S26)) (wrap64 (x4 + 1))) else (none))) else (none)) else (some x3)
def laws_toRatS.f (k : Nat) (l0 : List (S86)) : Option ((List (S26))) := if 0 ≤ (l0.length : Int) then (if ((l0.length : Int) : Int).toNat ≤ 5026338869833 then (laws_toRatS.l0 k l0 (List.replicate ((l0.length : Int) : Int).toNat z26) 0) else (none)) else (none)
theorem laws_toRatS.mono_l : ∀ k, (∀ y0 y1 y2, LeO (laws_toRatS.l0 k y0 y1 y2) (laws_toRatS.l0 (k + 1) y0 y1 y2))
  | 0 => fun _ _ _ r h => by simp [laws_toRatS.l0] at h
  | k + 1 => by
    have ih0 := laws_toRatS.mono_l k
    · intro y0 y1 y2
      unfold laws_toRatS.l0
      repeat' first
      | (with_reducible exact ih0 _ _ _)
      | (with_reducible exact laws_toRat.mono _ _ _ _)
      | (with_reducible exact LeO.refl _)
      | (with_reducible exact LeO.none _)
      | (with_reducible refine LeO.ite ?_ ?_)
      | (with_reducible refine LeO.bind ?_ (fun _ => ?_))
      | exact ih0 _ _ _
      | exact laws_toRat.mono _ _ _ _
      | exact LeO.none _
      | refine LeO.ite ?_ ?_
      | refine LeO.bind ?_ (fun _ => ?_)
theorem laws_toRatS.mono : ∀ a0 k, LeO (laws_toRatS.f k a0) (laws_toRatS.f (k + 1) a0) := by
  intro a0 k
  have ih0 := laws_toRatS.mono_l k
  unfold laws_toRatS.f
  repeat' first
      | (with_reducible exact ih0 _ _ _)
      | (with_reducible exact laws_toRat.mono _ _ _ _)
      | (with_reducible exact LeO.refl _)
      | (with_reducible exact LeO.none _)
      | (with_reducible refine LeO.ite ?_ ?_)
      | (with_reducible refine LeO.bind ?_ (fun _ => ?_))
      | exact ih0 _ _ _
      | exact laws_toRat.mono _ _ _ _
      | exact LeO.none _
      | refine LeO.ite ?_ ?_
      | refine LeO.bind ?_ (fun _ => ?_)
set_option maxHeartbeats 8000000 in
set_option maxRecDepth 100000 in
theorem laws_toRatS.calls (k : Nat) (A0 : Option Addr) (c0 : Nat) (l0 : List (S86)) (r : List (S26)) (w : World) (hr0 : Kd.C k86 w A0 l0.length l0) (hc0 : l0.length ≤ c0) (h : laws_toRatS.f k l0 = some r) :
    Calls Try.prog 25 #[.slice A0 l0.length c0] w fun e w' => ∃ v0_ : Value, e = .returned (v0_) ∧ Kd.S k26 26 w' w.heap.size (fun _ => True) v0_ r ∧ Below w.heap.size w w' := by
  have hu86 := Try.underlying86
  have hu26 := Try.underlying26
  have HR0 := Aside0.mk hr0
  have HC0 := Aside0.mk hc0
  clear hr0 hc0
  have HB := Aside0.mk (Below.refl w.heap.size w)
  have H : (if 0 ≤ (l0.length : Int) then (if ((l0.length : Int) : Int).toNat ≤ 5026338869833 then (laws_toRatS.l0 k l0 (List.replicate ((l0.length : Int) : Int).toNat z26) 0) else (none)) else (none)) = some r := h
  clear h
  by_cases c2 : 0 ≤ (l0.length : Int)
  · rw [if_pos c2] at H
    have c2b0 := eq_true c2
    have c2b1 : decide (0 ≤ (l0.length : Int)) = true := decide_eq_true c2
    clear c2
    by_cases c3 : ((l0.length : Int) : Int).toNat ≤ 5026338869833
    · rw [if_pos c3] at H
      have c3b0 := eq_true c3
      have c3b1 : decide (((l0.length : Int) : Int).toNat ≤ 5026338869833) = true := decide_eq_true c3
      clear c3
      obtain ⟨y146, hy146⟩ : ∃ y_ : List (S26), y_ = (List.replicate ((l0.length : Int) : Int).toNat z26) := ⟨_, rfl⟩
      replace H : (laws_toRatS.l0 k l0 y146 0) = some r := by first | (rw [hy146]; with_reducible exact H) | (have H2_ := (Option.bind_some _ _).symm.trans H; rw [hy146]; with_reducible exact H2_) | (have H2_ := (Option.bind_some _ _).symm.trans H; with_reducible exact H2_) | with_reducible exact H | (rw [hy146]; exact H) | exact H
      have Ny146 := Aside0.mk hy146
      clear hy146
      have H' := Aside0.mk H
      clear H
      go_enter Try.func25, Try.ntmps25
      go_wp2_with (first | ((with_reducible refine gate_dst (N := 7) rfl ?_); refine Kd.S_make k26 _ 26 rfl (N := 7) rfl 51 _ _ rfl (l0.length : Int) rfl rfl Try.underlying51 (.agg #[(.bool false), (.slice none 0 0), (.slice none 0 0)]) 56 info26 rfl (by decide) (by omega) z26 (ok := fun _ => True) (okp := fun _ => True) (k26_mkM _ _ _ z26 (Kd.R_nil _ _ _ _ _) (Kd.R_nil _ _ _ _ _)) (fun _ hk => hk) trivial (of_decide_eq_true (by first | (with_reducible assumption) | assumption)) (Nat.le_trans (Nat.mul_le_mul_right _ (of_decide_eq_true (by first | (with_reducible assumption) | assumption) : (l0.length : Int).toNat ≤ 5026338869833)) (by omega)) (Below.refl _ _) (Nat.le_refl _) ?_; intro v147 w4 ho5 hb hg_ hnew_; clear hg_ hnew_; (first | rw [← Ny146.out] at ho5 | (simp only [Int.reduceToNat] at ho5; rw [← Ny146.out] at ho5)); have n0_ := Aside0.mk (Kd.S_lower ho5 (below_size (by repeat (first | (with_reducible first | exact HB.out | apply below_alloc | apply pw_below_drewN | apply below_drew1) | exact HB.out)))); have n1_ := Aside0.mk (below_step (by repeat (first | (with_reducible first | exact HB.out | apply below_alloc | apply pw_below_drewN | apply below_drew1) | exact HB.out)) hb); clear HB; have HO148 := n0_; have HB := n1_; clear n0_ n1_; clear hb ho5))
      go_loopg [4] k (fun kq v4 w' => ∃ (x3_1 : List (S26)) (x4_1 : Int), v4 = .int .i64 x4_1 ∧ Aside0 (laws_toRatS.l0 kq l0 x3_1 x4_1 = some r) ∧ Aside0 (kq ≤ k) ∧ Aside0 (Kd.S k26 26 w' w.heap.size (fun _ => True) v147 x3_1) ∧ Aside0 (Below w.heap.size w w'))
      case atStart => exact ⟨(y146), (0), (by first | rfl | (simp; done) | (simp [*]; done)), H', ⟨Nat.le_refl _⟩, ⟨by (with_reducible repeat (first | apply Kd.S_alloc | apply Kd.S_drewN | apply Kd.S_drew)); exact HO148.out⟩, ⟨by repeat (first | (with_reducible first | exact HB.out | apply below_alloc | apply pw_below_drewN | apply below_drew1) | exact HB.out)⟩⟩
      case round =>
        clear H'
        try clear c2
        try clear c2b0
        try clear c2b1
        try clear p2
        try clear c3
        try clear c3b0
        try clear c3b1
        obtain ⟨x3_1, x4_1, rfl, HA, HK1, HO_3, HB⟩ := hrel
        cases gk with
        | zero => exact absurd HA.out (by simp [laws_toRatS.l0])
        | succ k1 =>
          have H := HA.out
          clear HA
          simp only [laws_toRatS.l0] at H
          by_cases c6 : x4_1 < (l0.length : Int)
          · rw [if_pos c6] at H
            have c6b0 : decide (x4_1 < (l0.length : Int)) = true := decide_eq_true c6
            clear c6
            by_cases c7 : 0 ≤ x4_1
            · rw [if_pos c7] at H
              have c7b0 : decide (0 ≤ x4_1) = true := decide_eq_true c7
              clear c7
              replace H := Option.bind_eq_some_iff.mp H
              obtain ⟨⟨t150, t151, t154⟩, A80, H⟩ := H
              replace H : (if x4_1 < (x3_1.length : Int) then (laws_toRatS.l0 k1 l0 (x3_1.set (x4_1 : Int).toNat (⟨t150, t151, t154⟩ : S26)) (wrap64 (x4_1 + 1))) else (none)) = some r := H
              have A8 := Aside0.mk A80
              clear A80
              by_cases c9 : x4_1 < (x3_1.length : Int)
              · rw [if_pos c9] at H
                have c9b0 : decide (x4_1 < (x3_1.length : Int)) = true := decide_eq_true c9
                clear c9
                obtain ⟨y157, hy157⟩ : ∃ y_ : List (S26), y_ = (x3_1.set (x4_1 : Int).toNat (⟨t150, t151, t154⟩ : S26)) := ⟨_, rfl⟩
                replace H : (laws_toRatS.l0 k1 l0 y157 (wrap64 (x4_1 + 1))) = some r := by first | (rw [hy157]; with_reducible exact H) | (have H2_ := (Option.bind_some _ _).symm.trans H; rw [hy157]; with_reducible exact H2_) | (have H2_ := (Option.bind_some _ _).symm.trans H; with_reducible exact H2_) | with_reducible exact H | (rw [hy157]; exact H) | exact H
                have Ny157 := Aside0.mk hy157
                clear hy157
                have H' := Aside0.mk H
                clear H
                have p149 : 0 ≤ (x4_1 : Int) := of_decide_eq_true (by first | (with_reducible assumption) | assumption)
                have q149 : x4_1 < (l0.length : Int) := of_decide_eq_true (by first | (with_reducible assumption) | assumption)
                obtain ⟨ad149, A149_1, c149_1, A149_2, c149_2, e149, hx149_0, hx149_1, hx149_2, hl149_1, hi149_1, hl149_2, hi149_2⟩ := at_T86 HR0.out x4_1 p149 q149
                cases e149
                replace hx149_0 := (HB.out.cell (World.block_lt_of_cell? w _ hx149_0)).trans hx149_0
                replace hx149_1 := (HB.out.cell (World.block_lt_of_cell? w _ hx149_1)).trans hx149_1
                replace hx149_2 := (HB.out.cell (World.block_lt_of_cell? w _ hx149_2)).trans hx149_2
                have HR149_1 := Aside0.mk hi149_1
                have HC149_1 := Aside0.mk hl149_1
                clear hi149_1 hl149_1
                have HR149_2 := Aside0.mk hi149_2
                have HC149_2 := Aside0.mk hl149_2
                clear hi149_2 hl149_2
                replace p149 := eq_true p149
                replace q149 := eq_true q149
                go_wp2_with (first | ((with_reducible refine gate_callee (f := 64) rfl ?_); refine goesL_ (some 20) rfl rfl Try.func64 (by kernel_rfl) rfl #[.agg #[.bool ((rd_T86 l0 x4_1).f0), .slice A149_1 ((rd_T86 l0 x4_1).f1).length c149_1, .slice A149_2 ((rd_T86 l0 x4_1).f2).length c149_2]] rfl (by (try simp only [List.map_toArray, List.map_cons, List.map_nil]); first | done | rfl | (simp only [List.length_drop, List.length_take]; rfl)) ?_; (with_reducible refine (laws_toRat.calls k1 ((rd_T86 l0 x4_1).f0) _ _ ((rd_T86 l0 x4_1).f1) _ _ ((rd_T86 l0 x4_1).f2) t150 t151 t154 _ ?side1 ?side2 ?side3 ?side4 A8.out).mono ?_); (case side1 => repeat (first | exact (Kd.C_below HR149_1.out HB.out) | (with_reducible refine Kd.C_alloc ?_ _) | (with_reducible refine Kd.C_drewN ?_ _) | (with_reducible refine Kd.C_drew ?_))); (case side2 => exact HC149_1.out); (case side3 => repeat (first | exact (Kd.C_below HR149_2.out HB.out) | (with_reducible refine Kd.C_alloc ?_ _) | (with_reducible refine Kd.C_drewN ?_ _) | (with_reducible refine Kd.C_drew ?_))); (case side4 => exact HC149_2.out); rintro e w11 ⟨v152, v155, rfl, ho0, ho1, hb⟩; refine ⟨_, rfl, ?_⟩; have n0_ := Aside0.mk (Kd.S_mono (Kd.S_told (Kd.S_told (Kd.S_old (by (with_reducible repeat (first | apply Kd.S_alloc | apply Kd.S_drewN | apply Kd.S_drew)); exact HO_3.out) hb) (Kd.R_base ho0)) (Kd.R_base ho1)) (fun _ h_ => h_.1)); have n1_ := Aside0.mk (Kd.R_lower ho0 (below_size (by repeat (first | (with_reducible first | exact HB.out | apply below_alloc | apply pw_below_drewN | apply below_drew1) | exact HB.out)))); have n2_ := Aside0.mk (Kd.R_lower ho1 (below_size (by repeat (first | (with_reducible first | exact HB.out | apply below_alloc | apply pw_below_drewN | apply below_drew1) | exact HB.out)))); have n3_ := Aside0.mk (below_step (by repeat (first | (with_reducible first | exact HB.out | apply below_alloc | apply pw_below_drewN | apply below_drew1) | exact HB.out)) hb); clear HO_3; clear HB; have HO_3 := n0_; have HO153 := n1_; have HO156 := n2_; have HB := n3_; clear n0_ n1_ n2_ n3_; (try clear hb); (try clear hb2); (try clear hk); (try clear hi); (try clear ho0); (try clear ho1); have p10 : 0 ≤ (x4_1 : Int) := of_decide_eq_true (by first | (with_reducible assumption) | assumption); have q10 : (x4_1 : Int) < ((x3_1.length : Int) : Int) := of_decide_eq_true (by first | (with_reducible assumption) | assumption); obtain ⟨go10, co10, eo10, gb10, gl10, cl10, HG10⟩ := Kd.S_form HO_3.out (by omega); (first | cases eo10 | (injection eo10 with ea_ en_ ec_; (first | subst ea_ | (injection ea_ with ea_; subst ea_)); subst ec_; clear en_)); have GB10 := Aside0.mk gb10; have GG10 := Aside0.mk HG10; clear gb10 gl10 HG10; obtain ⟨_, ce10, hcl10, hM10, hcc10, hfr10, _, _⟩ := Kd.S_elem HO_3.out z26 (x4_1 : Int) p10 q10; obtain ⟨ve10_1, ve10_2, rfl, ge10_1, ge10_2⟩ := k26_openM hM10; have hx10_0 : w11.cell? ⟨go10, (x4_1 : Int).toNat * 3, none⟩ = some (.bool ((rd_T26 x3_1 x4_1).f0)) := hcc10 0 _ rfl; have hx10_1 : w11.cell? ⟨go10, (x4_1 : Int).toNat * 3 + 1, none⟩ = some (ve10_1) := hcc10 1 _ rfl; have hx10_2 : w11.cell? ⟨go10, (x4_1 : Int).toNat * 3 + 2, none⟩ = some (ve10_2) := hcc10 2 _ rfl; have hf10_0 : w11.frozen? ⟨go10, (x4_1 : Int).toNat * 3, none⟩ = false := hfr10 0; have hf10_1 : w11.frozen? ⟨go10, (x4_1 : Int).toNat * 3 + 1, none⟩ = false := hfr10 1; have hf10_2 : w11.frozen? ⟨go10, (x4_1 : Int).toNat * 3 + 2, none⟩ = false := hfr10 2; clear hcl10 hcc10 hfr10 hM10; replace p10 := eq_true p10; replace q10 := eq_true q10; have n_ := Aside0.mk (Kd.S_mono (ok' := (fun k_ => some k_ ≠ (v152 : Value).ownBlock ∧ some k_ ≠ (v155 : Value).ownBlock)) HO_3.out (fun k_ hk => ⟨hk.1.2, hk.2⟩)); clear HO_3; have HO_3 := n_; clear n_; have HX12 := Aside0.mk (show Kd.S k26 26 w11 w.heap.size (fun k_ => ((fun _ => True)) k_ ∧ ¬ ((fun k_ => some k_ = (v152 : Value).ownBlock ∨ some k_ = (v155 : Value).ownBlock)) k_) (.slice (some ⟨go10, 0, none⟩) x3_1.length co10) x3_1 from (by (with_reducible repeat (first | apply Kd.S_alloc | apply Kd.S_drewN | apply Kd.S_drew)); exact Kd.S_mono HO_3.out (fun k_ hk => ⟨trivial, fun e_ => e_.elim (fun h_ => hk.1 h_) (fun h_ => hk.2 h_)⟩))); obtain ⟨oki12, ce12, hcl12, hM12, hcc12, hfr12, hoki12, hH12⟩ := Kd.S_elem HX12.out z26 (x4_1 : Int) (of_decide_eq_true (by first | (with_reducible assumption) | assumption)) (by have h_ : (x4_1 : Int) < ((x3_1.length : Int) : Int) := of_decide_eq_true (by first | (with_reducible assumption) | assumption); first | exact h_ | (have e_ := (Kd.S_reads' HO_3.out).1; omega) | simpa using h_); obtain ⟨ve12_1, ve12_2, rfl, ge12_1, ge12_2⟩ := k26_openM hM12; have HP12 := Kd.S_seg hH12 (of_decide_eq_true (by first | (with_reducible assumption) | assumption)) (by have h_ : (x4_1 : Int) < ((x3_1.length : Int) : Int) := of_decide_eq_true (by first | (with_reducible assumption) | assumption); first | exact h_ | (have e_ := (Kd.S_reads' HO_3.out).1; omega) | simpa using h_) (seg := [.bool t150, v152, v155]) (j := 0) (show 3 ≤ 3 from by decide) (x' := (⟨t150, t151, t154⟩ : S26)) (k26_mkM _ _ _ (⟨t150, t151, t154⟩ : S26) (Kd.R_mono (Kd.R_tight rfl (Kd.R_mono (ok' := fun k_ => ((fun _ => True)) k_ ∧ k_ ≠ go10) (Kd.R_apart' (HO153.out) (Kd.S_typed HO_3.out) (by decide)) (fun k_ hk => ⟨trivial, fun e_ => (hk.2) (by rw [e_]; rfl)⟩))) (fun _ h_ => Or.inr (Or.inl h_))) (Kd.R_mono (Kd.R_tight rfl (Kd.R_mono (ok' := fun k_ => ((fun _ => True)) k_ ∧ k_ ≠ go10) (Kd.R_apart' (HO156.out) (Kd.S_typed HO_3.out) (by decide)) (fun k_ hk => ⟨trivial, fun e_ => (hk.2) (by rw [e_]; rfl)⟩))) (fun _ h_ => Or.inr (Or.inr (h_))))) (fun _ hk => hk) (fun k_ hk_ => hk_.elim (fun h_ => ((Kd.R_mono (ok' := fun k_ => ((fun _ => True)) k_ ∧ k_ ≠ go10) (Kd.R_apart' (HO153.out) (Kd.S_typed HO_3.out) (by decide)) (fun k_ hk => ⟨trivial, fun e_ => (hk.2) (by rw [e_]; rfl)⟩))).1 k_ h_.symm) (fun h_ => ((Kd.R_mono (ok' := fun k_ => ((fun _ => True)) k_ ∧ k_ ≠ go10) (Kd.R_apart' (HO156.out) (Kd.S_typed HO_3.out) (by decide)) (fun k_ hk => ⟨trivial, fun e_ => (hk.2) (by rw [e_]; rfl)⟩))).1 k_ h_.symm)); have hx12_0 := hcc12 0 _ rfl; (try simp only [show (k26).sz = 3 from rfl, Nat.mul_one, Nat.add_zero] at hx12_0); have hf12_0 := hfr12 0; (try simp only [show (k26).sz = 3 from rfl, Nat.mul_one, Nat.add_zero] at hf12_0); have hx12_1 := hcc12 1 _ rfl; (try simp only [show (k26).sz = 3 from rfl, Nat.mul_one, Nat.add_zero] at hx12_1); have hf12_1 := hfr12 1; (try simp only [show (k26).sz = 3 from rfl, Nat.mul_one, Nat.add_zero] at hf12_1); have hx12_2 := hcc12 2 _ rfl; (try simp only [show (k26).sz = 3 from rfl, Nat.mul_one, Nat.add_zero] at hx12_2); have hf12_2 := hfr12 2; (try simp only [show (k26).sz = 3 from rfl, Nat.mul_one, Nat.add_zero] at hf12_2); clear hcl12 hcc12 hfr12 hM12 hoki12 hH12; (try have hq12_1 := (show ∀ (a_ : Addr) (m_ : Mode) (W_ : World), (store a_ v152 m_).run Try.prog W_ = stored Try.prog W_ a_ v152 m_ from fun a_ m_ W_ => run_store _ W_ a_ _ m_ (Kd.R_val HO153.out).2)); (try have hq12_2 := (show ∀ (a_ : Addr) (m_ : Mode) (W_ : World), (store a_ v155 m_).run Try.prog W_ = stored Try.prog W_ a_ v155 m_ from fun a_ m_ W_ => run_store _ W_ a_ _ m_ (Kd.R_val HO156.out).2))) | ((with_reducible refine gate_store (t := 26) (p := 21) rfl ?_); refine store_event (t := 26) (p := 21) (v := ?vo_w13) (w1 := (((w11.setCell ⟨go10, (x4_1 : Int).toNat * 3, none⟩ (.bool t150)).setCell ⟨go10, (x4_1 : Int).toNat * 3 + 1, none⟩ (v152)).setCell ⟨go10, (x4_1 : Int).toNat * 3 + 2, none⟩ (v155))) ?hg ?ho ?hn ?hr ?_; (case ho => rfl); (case hg => rfl); (case hn => rfl); (case hr => first | (go_simp; done) | (go_simp; rfl)); intro w13 hw; have hg : w11.grownBy w13 (some go10) := (by rw [hw]; exact HP12.2); have hp_ : Kd.S k26 26 w13 w.heap.size (fun _ => True) (.slice (some ⟨go10, 0, none⟩) x3_1.length co10) y157 := (by rw [hw, Ny157.out]; exact HP12.1); clear HP12; have n0_ := Aside0.mk (hp_); have n1_ := Aside0.mk ((by rw [hw]; exact below_set (below_set (below_set (HB.out) GB10.out) GB10.out) GB10.out : Below w.heap.size w w13)); clear HO_3; clear HB; clear HO153; clear HO156; have HO_3 := n0_; have HB := n1_; clear n0_ n1_; clear hg hw hp_))
                go_roundg k1
                case measure => have := HK1.out; omega
                case rel => exact ⟨(y157), (wrap64 (x4_1 + 1)), (by first | rfl | (simp; done) | (simp [*]; done)), H', ⟨by have := HK1.out; omega⟩, ⟨by (with_reducible repeat (first | apply Kd.S_alloc | apply Kd.S_drewN | apply Kd.S_drew)); exact HO_3.out⟩, ⟨by repeat (first | (with_reducible first | exact HB.out | apply below_alloc | apply pw_below_drewN | apply below_drew1) | exact HB.out)⟩⟩
              · rw [if_neg c9] at H
                exact absurd H (by simp)
            · rw [if_neg c7] at H
              exact absurd H (by simp)
          · rw [if_neg c6] at H
            have c6b0 : decide (x4_1 < (l0.length : Int)) = false := decide_eq_false c6
            clear c6
            obtain rfl := Option.some.inj H
            go_wp2
            go_ret
            exact ⟨_, by first | rfl | (simp [errW_none, errW_some] <;> rfl) | (simp [*, errW_none, errW_some] <;> rfl), by (with_reducible repeat (first | apply Kd.S_alloc | apply Kd.S_drewN | apply Kd.S_drew)); exact HO_3.out, by repeat (first | (with_reducible first | exact HB.out | apply below_alloc | apply pw_below_drewN | apply below_drew1) | exact HB.out)⟩
    · rw [if_neg c3] at H
      exact absurd H (by simp)
  · rw [if_neg c2] at H
    exact absurd H (by simp)
end Go.Proofs.Ytlpckbleokoiiaa.Print
end

section
/- The function laws_eqUint32S of the program as a Lean function, and that the machine's call does what it says. Conditions: those of the theorem. -/
namespace Go.Proofs.Ytlpckbleokoiiaa.Print
open Go.RowKit Go.Proofs.YtlpckbleokoiiaaW.PrintWords Go.Proofs.YtlpckbleokoiiaaW.PrintLast Go.Proofs.YtlpckbleokoiiaaW.PrintMore
attribute [local go_sem] max2_int min2_int max_two min_two max_three min_three max_four min_four
set_option linter.unusedVariables false
set_option linter.unusedSimpArgs false
def laws_eqUint32S.l0 : Nat → List Int → List Int → Int → Option (Bool)
  | 0, _, _, _ => none
  | k + 1, x0, x1, x5 => if x5 < (x0.length : Int) then (if 0 ≤ x5 then (if x5 < (x1.length : Int) then (if (rd x0 x5) = (rd x1 x5) then (laws_eqUint32S.l0 k x0 x1 (wrap64 (x5 + 1))) else (some false)) else (none)) else (none)) else (some true)
def laws_eqUint32S.f (k : Nat) (l0 : List Int) (l1 : List Int) : Option (Bool) := if (l0.length : Int) = (l1.length : Int) then (laws_eqUint32S.l0 k l0 l1 0) else (some false)
theorem laws_eqUint32S.mono_l : ∀ k, (∀ y0 y1 y2, LeO (laws_eqUint32S.l0 k y0 y1 y2) (laws_eqUint32S.l0 (k + 1) y0 y1 y2))
  | 0 => fun _ _ _ r h => by simp [laws_eqUint32S.l0] at h
  | k + 1 => by
    have ih0 := laws_eqUint32S.mono_l k
    · intro y0 y1 y2
      unfold laws_eqUint32S.l0
      repeat' first
      | (with_reducible exact ih0 _ _ _)
      | (with_reducible exact LeO.refl _)
      | (with_reducible exact LeO.none _)
      | (with_reducible refine LeO.ite ?_ ?_)
      | (with_reducible refine LeO.bind ?_ (fun _ => ?_))
      | exact ih0 _ _ _
      | exact LeO.none _
      | refine LeO.ite ?_ ?_
      | refine LeO.bind ?_ (fun _ => ?_)
theorem laws_eqUint32S.mono : ∀ a0 a1 k, LeO (laws_eqUint32S.f k a0 a1) (laws_eqUint32S.f (k + 1) a0 a1) := by
  intro a0 a1 k
  have ih0 := laws_eqUint32S.mono_l k
  unfold laws_eqUint32S.f
  repeat' first
      | (with_reducible exact ih0 _ _ _)
      | (with_reducible exact LeO.refl _)
      | (with_reducible exact LeO.none _)
      | (with_reducible refine LeO.ite ?_ ?_)
      | (with_reducible refine LeO.bind ?_ (fun _ => ?_))
      | exact ih0 _ _ _
      | exact LeO.none _
      | refine LeO.ite ?_ ?_
      | refine LeO.bind ?_ (fun _ => ?_)
set_option maxHeartbeats 8000000 in
set_option maxRecDepth 100000 in
theorem laws_eqUint32S.calls (k : Nat) (A0 : Option Addr) (c0 : Nat) (l0 : List Int) (A1 : Option Addr) (c1 : Nat) (l1 : List Int) (r : Bool) (w : World) (hr0 : Kd.C (Kd.int .u32) w A0 l0.length l0) (hc0 : l0.length ≤ c0) (hr1 : Kd.C (Kd.int .u32) w A1 l1.length l1) (hc1 : l1.length ≤ c1) (h : laws_eqUint32S.f k l0 l1 = some r) :
    Calls Try.prog 107 #[.slice A0 l0.length c0, .slice A1 l1.length c1] w fun e w' => e = .returned (.bool r) ∧ Drawn0 w w' := by
  have HR0 := Aside0.mk hr0
  have HC0 := Aside0.mk hc0
  clear hr0 hc0
  have HR1 := Aside0.mk hr1
  have HC1 := Aside0.mk hc1
  clear hr1 hc1
  have H : (if (l0.length : Int) = (l1.length : Int) then (laws_eqUint32S.l0 k l0 l1 0) else (some false)) = some r := h
  clear h
  by_cases c3 : (l0.length : Int) = (l1.length : Int)
  · rw [if_pos c3] at H
    have c3b0 : ((l0.length : Int) == (l1.length : Int)) = true := beq_iff_eq.mpr c3
    have c3b1 : ((l0.length : Int) != (l1.length : Int)) = false := bne_eq_false_iff_eq.mpr c3
    have c3b2 : (l0.length == l1.length) = true := by first | simpa using c3 | (simp at c3 ⊢; omega)
    clear c3
    have H' := Aside0.mk H
    clear H
    go_enter Try.func107, Try.ntmps107
    go_wp2
    repeat (go_quiet (fail); try go_wp2)
    go_loopg [5] k (fun kq v5 w' => ∃ (x5_1 : Int), v5 = .int .i64 x5_1 ∧ Aside0 (laws_eqUint32S.l0 kq l0 l1 x5_1 = some r) ∧ Aside0 (kq ≤ k) ∧ Drawn0 w w')
    case atStart => exact ⟨(0), (by first | rfl | (simp; done) | (simp [*]; done)), H', ⟨Nat.le_refl _⟩, by repeat (first | exact Drawn0.refl _ | apply Drawn0.step)⟩
    case round =>
      clear H'
      try clear c1
      try clear p2
      try clear c3
      try clear c3b0
      try clear c3b1
      try clear c3b2
      obtain ⟨x5_1, rfl, HA, HK1, ⟨m1, rfl⟩⟩ := hrel
      cases gk with
      | zero => exact absurd HA.out (by simp [laws_eqUint32S.l0])
      | succ k1 =>
        have H := HA.out
        clear HA
        simp only [laws_eqUint32S.l0] at H
        by_cases c4 : x5_1 < (l0.length : Int)
        · rw [if_pos c4] at H
          have c4b0 : decide (x5_1 < (l0.length : Int)) = true := decide_eq_true c4
          clear c4
          by_cases c5 : 0 ≤ x5_1
          · rw [if_pos c5] at H
            have c5b0 : decide (0 ≤ x5_1) = true := decide_eq_true c5
            clear c5
            by_cases c6 : x5_1 < (l1.length : Int)
            · rw [if_pos c6] at H
              have c6b0 : decide (x5_1 < (l1.length : Int)) = true := decide_eq_true c6
              clear c6
              by_cases c7 : (rd l0 x5_1) = (rd l1 x5_1)
              · rw [if_pos c7] at H
                have c7b0 : ((rd l0 x5_1) == (rd l1 x5_1)) = true := beq_iff_eq.mpr c7
                have c7b1 : ((rd l0 x5_1) != (rd l1 x5_1)) = false := bne_eq_false_iff_eq.mpr c7
                clear c7
                have H' := Aside0.mk H
                clear H
                have p197 : 0 ≤ (x5_1 : Int) := of_decide_eq_true (by first | (with_reducible assumption) | assumption)
                have q197 : x5_1 < (l0.length : Int) := of_decide_eq_true (by first | (with_reducible assumption) | assumption)
                obtain ⟨ad197, e197, hx197_0⟩ := Kd.at_int HR0.out x5_1 p197 q197
                cases e197
                replace p197 := eq_true p197
                replace q197 := eq_true q197
                have p198 : 0 ≤ (x5_1 : Int) := of_decide_eq_true (by first | (with_reducible assumption) | assumption)
                have q198 : x5_1 < (l1.length : Int) := of_decide_eq_true (by first | (with_reducible assumption) | assumption)
                obtain ⟨ad198, e198, hx198_0⟩ := Kd.at_int HR1.out x5_1 p198 q198
                cases e198
                replace p198 := eq_true p198
                replace q198 := eq_true q198
                go_wp2
                repeat (go_quiet (fail); try go_wp2)
                go_roundg k1
                case measure => have := HK1.out; omega
                case rel => exact ⟨(wrap64 (x5_1 + 1)), (by first | rfl | (simp; done) | (simp [*]; done)), H', ⟨by have := HK1.out; omega⟩, by repeat (first | exact Drawn0.refl _ | apply Drawn0.step)⟩
              · rw [if_neg c7] at H
                have c7b0 : ((rd l0 x5_1) == (rd l1 x5_1)) = false := beq_eq_false_iff_ne.mpr c7
                have c7b1 : ((rd l0 x5_1) != (rd l1 x5_1)) = true := bne_iff_ne.mpr c7
                obtain rfl := Option.some.inj H
                have p197 : 0 ≤ (x5_1 : Int) := of_decide_eq_true (by first | (with_reducible assumption) | assumption)
                have q197 : x5_1 < (l0.length : Int) := of_decide_eq_true (by first | (with_reducible assumption) | assumption)
                obtain ⟨ad197, e197, hx197_0⟩ := Kd.at_int HR0.out x5_1 p197 q197
                cases e197
                replace p197 := eq_true p197
                replace q197 := eq_true q197
                have p198 : 0 ≤ (x5_1 : Int) := of_decide_eq_true (by first | (with_reducible assumption) | assumption)
                have q198 : x5_1 < (l1.length : Int) := of_decide_eq_true (by first | (with_reducible assumption) | assumption)
                obtain ⟨ad198, e198, hx198_0⟩ := Kd.at_int HR1.out x5_1 p198 q198
                cases e198
                replace p198 := eq_true p198
                replace q198 := eq_true q198
                go_wp2
                repeat (go_quiet (fail); try go_wp2)
                go_ret
                exact ⟨by first | rfl | (simp; done) | (simp [*]; done), by repeat (first | exact Drawn0.refl _ | apply Drawn0.step)⟩
            · rw [if_neg c6] at H
              exact absurd H (by simp)
          · rw [if_neg c5] at H
            exact absurd H (by simp)
        · rw [if_neg c4] at H
          have c4b0 : decide (x5_1 < (l0.length : Int)) = false := decide_eq_false c4
          clear c4
          obtain rfl := Option.some.inj H
          go_wp2
          repeat (go_quiet (fail); try go_wp2)
          go_ret
          exact ⟨by first | rfl | (simp; done) | (simp [*]; done), by repeat (first | exact Drawn0.refl _ | apply Drawn0.step)⟩
  · rw [if_neg c3] at H
    have c3b0 : ((l0.length : Int) == (l1.length : Int)) = false := beq_eq_false_iff_ne.mpr c3
    have c3b1 : ((l0.length : Int) != (l1.length : Int)) = true := bne_iff_ne.mpr c3
    have c3b2 : (l0.length == l1.length) = false := by first | simpa using c3 | (simp at c3 ⊢; omega)
    obtain rfl := Option.some.inj H
    go_enter Try.func107, Try.ntmps107
    go_wp2
    repeat (go_quiet (fail); try go_wp2)
    go_ret
    exact ⟨by first | rfl | (simp; done) | (simp [*]; done), by repeat (first | exact Drawn0.refl _ | apply Drawn0.step)⟩
end Go.Proofs.Ytlpckbleokoiiaa.Print
end

section
/- The function laws_eqRat of the program as a Lean function, and that the machine's call does what it says. Conditions: those of the theorem. -/
namespace Go.Proofs.Ytlpckbleokoiiaa.Print
open Go.RowKit Go.Proofs.YtlpckbleokoiiaaW.PrintWords Go.Proofs.YtlpckbleokoiiaaW.PrintLast Go.Proofs.YtlpckbleokoiiaaW.PrintMore
attribute [local go_sem] max2_int min2_int max_two min_two max_three min_three max_four min_four
set_option linter.unusedVariables false
set_option linter.unusedSimpArgs false
def laws_eqRat.f (k : Nat) (a0_0 : Bool) (l0_1 : List Int) (l0_2 : List Int) (a1_0 : Bool) (l1_1 : List Int) (l1_2 : List Int) : Option (Bool) := if (a0_0 != a1_0) = true then (some false) else ((laws_eqUint32S.f k l0_1 l1_1).bind fun t201 => (if t201 = true then ((laws_eqUint32S.f k l0_2 l1_2).bind fun t202 => (if t202 = true then (some true) else (some false))) else (some false)))
theorem laws_eqRat.mono : ∀ a0 a1 a2 a3 a4 a5 k, LeO (laws_eqRat.f k a0 a1 a2 a3 a4 a5) (laws_eqRat.f (k + 1) a0 a1 a2 a3 a4 a5) := by
  intro a0 a1 a2 a3 a4 a5 k
  unfold laws_eqRat.f
  repeat' first
      | (with_reducible exact laws_eqUint32S.mono _ _ _)
      | (with_reducible exact LeO.refl _)
      | (with_reducible exact LeO.none _)
      | (with_reducible refine LeO.ite ?_ ?_)
      | (with_reducible refine LeO.bind ?_ (fun _ => ?_))
      | exact laws_eqUint32S.mono _ _ _
      | exact LeO.none _
      | refine LeO.ite ?_ ?_
      | refine LeO.bind ?_ (fun _ => ?_)
set_option maxHeartbeats 8000000 in
set_option maxRecDepth 100000 in
theorem laws_eqRat.calls (k : Nat) (a0_0 : Bool) (A0_1 : Option Addr) (c0_1 : Nat) (l0_1 : List Int) (A0_2 : Option Addr) (c0_2 : Nat) (l0_2 : List Int) (a1_0 : Bool) (A1_1 : Option Addr) (c1_1 : Nat) (l1_1 : List Int) (A1_2 : Option Addr) (c1_2 : Nat) (l1_2 : List Int) (r : Bool) (w : World) (hr0_1 : Kd.C (Kd.int .u32) w A0_1 l0_1.length l0_1) (hc0_1 : l0_1.length ≤ c0_1) (hr0_2 : Kd.C (Kd.int .u32) w A0_2 l0_2.length l0_2) (hc0_2 : l0_2.length ≤ c0_2) (hr1_1 : Kd.C (Kd.int .u32) w A1_1 l1_1.length l1_1) (hc1_1 : l1_1.length ≤ c1_1) (hr1_2 : Kd.C (Kd.int .u32) w A1_2 l1_2.length l1_2) (hc1_2 : l1_2.length ≤ c1_2) (h : laws_eqRat.f k a0_0 l0_1 l0_2 a1_0 l1_1 l1_2 = some r) :
    Calls Try.prog 67 #[.agg #[.bool a0_0, .slice A0_1 l0_1.length c0_1, .slice A0_2 l0_2.length c0_2], .agg #[.bool a1_0, .slice A1_1 l1_1.length c1_1, .slice A1_2 l1_2.length c1_2]] w fun e w' => e = .returned (.bool r) ∧ Below w.heap.size w w' := by
  have hu26 := Try.underlying26
  have HR0_1 := Aside0.mk hr0_1
  have HC0_1 := Aside0.mk hc0_1
  clear hr0_1 hc0_1
  have HR0_2 := Aside0.mk hr0_2
  have HC0_2 := Aside0.mk hc0_2
  clear hr0_2 hc0_2
  have HR1_1 := Aside0.mk hr1_1
  have HC1_1 := Aside0.mk hc1_1
  clear hr1_1 hc1_1
  have HR1_2 := Aside0.mk hr1_2
  have HC1_2 := Aside0.mk hc1_2
  clear hr1_2 hc1_2
  have HB := Aside0.mk (Below.refl w.heap.size w)
  have H : (if (a0_0 != a1_0) = true then (some false) else ((laws_eqUint32S.f k l0_1 l1_1).bind fun t201 => (if t201 = true then ((laws_eqUint32S.f k l0_2 l1_2).bind fun t202 => (if t202 = true then (some true) else (some false))) else (some false)))) = some r := h
  clear h
  by_cases c3 : (a0_0 != a1_0) = true
  · rw [if_pos c3] at H
    have c3b0 : (a0_0 != a1_0) = true := c3
    (try (have c3b1 : decide (a0_0 = a1_0) = false := by simpa using c3))
    (try (have c3b2 : (a0_0 == a1_0) = false := by simpa using c3))
    (try (have c3b3 : ¬ (a0_0 = a1_0) := by simpa using c3))
    clear c3
    obtain rfl := Option.some.inj H
    go_enter Try.func67, Try.ntmps67
    go_wp2_with (first | ((with_reducible refine gate_dst (N := 2) rfl ?_); refine box_event ?hg (N := 2) ?hd (cs := #[.bool a0_0, .slice A0_1 l0_1.length c0_1, .slice A0_2 l0_2.length c0_2]) (t := 26) ?hr ?_; (case hd => rfl); (case hg => rfl); (case hr => first | (go_simp; done) | (go_simp; rfl)); intro gb199 hg w4 hbox hb; have n0_ := Aside0.mk (below_step (by repeat (first | (with_reducible first | exact HB.out | apply below_alloc | apply pw_below_drewN | apply below_drew1) | exact HB.out)) hb); have n1_ := Aside0.mk (hbox); have n2_ := Aside0.mk ((by rw [hg]; exact (below_size (by repeat (first | (with_reducible first | exact HB.out | apply below_alloc | apply pw_below_drewN | apply below_drew1) | exact HB.out))) : w.heap.size ≤ gb199)); have n3_ := Aside0.mk ((by rw [hg]; exact (below_size (by repeat (first | (with_reducible first | exact HB.out | apply below_alloc | apply pw_below_drewN | apply below_drew1) | exact HB.out))) : w.heap.size ≤ gb199)); clear HB; have HB := n0_; have BK199 := n1_; have GW199 := n2_; have GE199 := n3_; clear n0_ n1_ n2_ n3_; clear hb hbox hg) | ((with_reducible refine gate_dst (N := 3) rfl ?_); refine box_event ?hg (N := 3) ?hd (cs := #[.bool a1_0, .slice A1_1 l1_1.length c1_1, .slice A1_2 l1_2.length c1_2]) (t := 26) ?hr ?_; (case hd => rfl); (case hg => rfl); (case hr => first | (go_simp; done) | (go_simp; rfl)); intro gb200 hg w5 hbox hb; have n0_ := Aside0.mk (blk_below (g := gb199) (o := .cells #[.bool a0_0, .slice A0_1 l0_1.length c0_1, .slice A0_2 l0_2.length c0_2] 26 (0, 0)) (by (with_reducible repeat (first | refine blk_drewN ?_ _ | refine blk_drew ?_ | refine blk_alloc ?_ _)); exact BK199.out) hb); have n1_ := Aside0.mk (below_step (by repeat (first | (with_reducible first | exact HB.out | apply below_alloc | apply pw_below_drewN | apply below_drew1 | refine below_set ?_ GE199.out) | exact HB.out)) hb); have n2_ := Aside0.mk (hbox); have n3_ := Aside0.mk ((by rw [hg]; exact (below_size (by repeat (first | (with_reducible first | exact HB.out | apply below_alloc | apply pw_below_drewN | apply below_drew1 | refine below_set ?_ GE199.out) | exact HB.out))) : w.heap.size ≤ gb200)); have n4_ := Aside0.mk ((by rw [hg]; exact (below_size (by repeat (first | (with_reducible first | exact HB.out | apply below_alloc | apply pw_below_drewN | apply below_drew1 | refine below_set ?_ GE199.out) | exact HB.out))) : w.heap.size ≤ gb200)); have n5_ := Aside0.mk ((by rw [hg]; exact Nat.ne_of_lt (blk_lt (g := gb199) (o := .cells #[.bool a0_0, .slice A0_1 l0_1.length c0_1, .slice A0_2 l0_2.length c0_2] 26 (0, 0)) (by (with_reducible repeat (first | refine blk_drewN ?_ _ | refine blk_drew ?_ | refine blk_alloc ?_ _)); exact BK199.out)) : gb199 ≠ gb200)); have n6_ := Aside0.mk ((by rw [hg]; exact Nat.ne_of_gt (blk_lt (g := gb199) (o := .cells #[.bool a0_0, .slice A0_1 l0_1.length c0_1, .slice A0_2 l0_2.length c0_2] 26 (0, 0)) (by (with_reducible repeat (first | refine blk_drewN ?_ _ | refine blk_drew ?_ | refine blk_alloc ?_ _)); exact BK199.out)) : gb200 ≠ gb199)); clear BK199; clear HB; have BK199 := n0_; have HB := n1_; have BK200 := n2_; have GW200 := n3_; have GE200 := n4_; have NB199_200 := n5_; have NB200_199 := n6_; clear n0_ n1_ n2_ n3_ n4_ n5_ n6_; clear hb hbox hg; have hnb6 := NB199_200.out; have hnc6 := NB200_199.out; have hcz7_0 : w5.cell? ⟨gb199, 0, none⟩ = some (.bool a0_0) := (blk_cell BK199.out 0).trans rfl; have hcz7_1 : w5.cell? ⟨gb199, 1, none⟩ = some (.slice A0_1 l0_1.length c0_1) := (blk_cell BK199.out 1).trans rfl; have hcz7_2 : w5.cell? ⟨gb199, 2, none⟩ = some (.slice A0_2 l0_2.length c0_2) := (blk_cell BK199.out 2).trans rfl; have hfz7_0 := blk_frozen BK199.out 0; have hfz7_1 := blk_frozen BK199.out 1; have hfz7_2 := blk_frozen BK199.out 2; have hcz8_0 : w5.cell? ⟨gb200, 0, none⟩ = some (.bool a1_0) := (blk_cell BK200.out 0).trans rfl; have hcz8_1 : w5.cell? ⟨gb200, 1, none⟩ = some (.slice A1_1 l1_1.length c1_1) := (blk_cell BK200.out 1).trans rfl; have hcz8_2 : w5.cell? ⟨gb200, 2, none⟩ = some (.slice A1_2 l1_2.length c1_2) := (blk_cell BK200.out 2).trans rfl; have hfz8_0 := blk_frozen BK200.out 0; have hfz8_1 := blk_frozen BK200.out 1; have hfz8_2 := blk_frozen BK200.out 2))
    go_ret
    exact ⟨by first | rfl | (simp [errW_none, errW_some] <;> rfl) | (simp [*, errW_none, errW_some] <;> rfl), by repeat (first | (with_reducible first | exact HB.out | apply below_alloc | apply pw_below_drewN | apply below_drew1 | refine below_set ?_ GE199.out | refine below_set ?_ GE200.out) | exact HB.out)⟩
  · rw [if_neg c3] at H
    have c3b0 : (a0_0 != a1_0) = false := by simpa using c3
    (try (have c3b1 : decide (a0_0 = a1_0) = true := by simpa using c3))
    (try (have c3b2 : (a0_0 == a1_0) = true := by simpa using c3))
    clear c3
    replace H := Option.bind_eq_some_iff.mp H
    obtain ⟨t201, A90, H⟩ := H
    replace H : (if t201 = true then ((laws_eqUint32S.f k l0_2 l1_2).bind fun t202 => (if t202 = true then (some true) else (some false))) else (some false)) = some r := H
    have A9 := Aside0.mk A90
    clear A90
    by_cases c10 : t201 = true
    · subst c10
      have H1 : ((laws_eqUint32S.f k l0_2 l1_2).bind fun t202 => (if t202 = true then (some true) else (some false))) = some r := by rw [if_pos rfl] at H; exact H
      clear H
      have H := H1
      clear H1
      replace H := Option.bind_eq_some_iff.mp H
      obtain ⟨t202, A110, H⟩ := H
      replace H : (if t202 = true then (some true) else (some false)) = some r := H
      have A11 := Aside0.mk A110
      clear A110
      by_cases c12 : t202 = true
      · subst c12
        have H1 : (some true) = some r := by rw [if_pos rfl] at H; exact H
        clear H
        have H := H1
        clear H1
        obtain rfl := Option.some.inj H
        go_enter Try.func67, Try.ntmps67
        go_wp2_with (first | ((with_reducible refine gate_dst (N := 2) rfl ?_); refine box_event ?hg (N := 2) ?hd (cs := #[.bool a0_0, .slice A0_1 l0_1.length c0_1, .slice A0_2 l0_2.length c0_2]) (t := 26) ?hr ?_; (case hd => rfl); (case hg => rfl); (case hr => first | (go_simp; done) | (go_simp; rfl)); intro gb199 hg w13 hbox hb; have n0_ := Aside0.mk (below_step (by repeat (first | (with_reducible first | exact HB.out | apply below_alloc | apply pw_below_drewN | apply below_drew1) | exact HB.out)) hb); have n1_ := Aside0.mk (hbox); have n2_ := Aside0.mk ((by rw [hg]; exact (below_size (by repeat (first | (with_reducible first | exact HB.out | apply below_alloc | apply pw_below_drewN | apply below_drew1) | exact HB.out))) : w.heap.size ≤ gb199)); have n3_ := Aside0.mk ((by rw [hg]; exact (below_size (by repeat (first | (with_reducible first | exact HB.out | apply below_alloc | apply pw_below_drewN | apply below_drew1) | exact HB.out))) : w.heap.size ≤ gb199)); clear HB; have HB := n0_; have BK199 := n1_; have GW199 := n2_; have GE199 := n3_; clear n0_ n1_ n2_ n3_; clear hb hbox hg) | ((with_reducible refine gate_dst (N := 3) rfl ?_); refine box_event ?hg (N := 3) ?hd (cs := #[.bool a1_0, .slice A1_1 l1_1.length c1_1, .slice A1_2 l1_2.length c1_2]) (t := 26) ?hr ?_; (case hd => rfl); (case hg => rfl); (case hr => first | (go_simp; done) | (go_simp; rfl)); intro gb200 hg w14 hbox hb; have n0_ := Aside0.mk (blk_below (g := gb199) (o := .cells #[.bool a0_0, .slice A0_1 l0_1.length c0_1, .slice A0_2 l0_2.length c0_2] 26 (0, 0)) (by (with_reducible repeat (first | refine blk_drewN ?_ _ | refine blk_drew ?_ | refine blk_alloc ?_ _)); exact BK199.out) hb); have n1_ := Aside0.mk (below_step (by repeat (first | (with_reducible first | exact HB.out | apply below_alloc | apply pw_below_drewN | apply below_drew1 | refine below_set ?_ GE199.out) | exact HB.out)) hb); have n2_ := Aside0.mk (hbox); have n3_ := Aside0.mk ((by rw [hg]; exact (below_size (by repeat (first | (with_reducible first | exact HB.out | apply below_alloc | apply pw_below_drewN | apply below_drew1 | refine below_set ?_ GE199.out) | exact HB.out))) : w.heap.size ≤ gb200)); have n4_ := Aside0.mk ((by rw [hg]; exact (below_size (by repeat (first | (with_reducible first | exact HB.out | apply below_alloc | apply pw_below_drewN | apply below_drew1 | refine below_set ?_ GE199.out) | exact HB.out))) : w.heap.size ≤ gb200)); have n5_ := Aside0.mk ((by rw [hg]; exact Nat.ne_of_lt (blk_lt (g := gb199) (o := .cells #[.bool a0_0, .slice A0_1 l0_1.length c0_1, .slice A0_2 l0_2.length c0_2] 26 (0, 0)) (by (with_reducible repeat (first | refine blk_drewN ?_ _ | refine blk_drew ?_ | refine blk_alloc ?_ _)); exact BK199.out)) : gb199 ≠ gb200)); have n6_ := Aside0.mk ((by rw [hg]; exact Nat.ne_of_gt (blk_lt (g := gb199) (o := .cells #[.bool a0_0, .slice A0_1 l0_1.length c0_1, .slice A0_2 l0_2.length c0_2] 26 (0, 0)) (by (with_reducible repeat (first | refine blk_drewN ?_ _ | refine blk_drew ?_ | refine blk_alloc ?_ _)); exact BK199.out)) : gb200 ≠ gb199)); clear BK199; clear HB; have BK199 := n0_; have HB := n1_; have BK200 := n2_; have GW200 := n3_; have GE200 := n4_; have NB199_200 := n5_; have NB200_199 := n6_; clear n0_ n1_ n2_ n3_ n4_ n5_ n6_; clear hb hbox hg; have hnb15 := NB199_200.out; have hnc15 := NB200_199.out; have hcz16_0 : w14.cell? ⟨gb199, 0, none⟩ = some (.bool a0_0) := (blk_cell BK199.out 0).trans rfl; have hcz16_1 : w14.cell? ⟨gb199, 1, none⟩ = some (.slice A0_1 l0_1.length c0_1) := (blk_cell BK199.out 1).trans rfl; have hcz16_2 : w14.cell? ⟨gb199, 2, none⟩ = some (.slice A0_2 l0_2.length c0_2) := (blk_cell BK199.out 2).trans rfl; have hfz16_0 := blk_frozen BK199.out 0; have hfz16_1 := blk_frozen BK199.out 1; have hfz16_2 := blk_frozen BK199.out 2; have hcz17_0 : w14.cell? ⟨gb200, 0, none⟩ = some (.bool a1_0) := (blk_cell BK200.out 0).trans rfl; have hcz17_1 : w14.cell? ⟨gb200, 1, none⟩ = some (.slice A1_1 l1_1.length c1_1) := (blk_cell BK200.out 1).trans rfl; have hcz17_2 : w14.cell? ⟨gb200, 2, none⟩ = some (.slice A1_2 l1_2.length c1_2) := (blk_cell BK200.out 2).trans rfl; have hfz17_0 := blk_frozen BK200.out 0; have hfz17_1 := blk_frozen BK200.out 1; have hfz17_2 := blk_frozen BK200.out 2) | ((with_reducible refine gate_callee (f := 107) rfl ?_); refine goesL_ (some 14) rfl rfl Try.func107 (by kernel_rfl) rfl #[.slice A0_1 l0_1.length c0_1, .slice A1_1 l1_1.length c1_1] rfl (by (try simp only [List.map_toArray, List.map_cons, List.map_nil]); first | done | rfl | (simp only [List.length_drop, List.length_take]; rfl)) ?_; (with_reducible refine (laws_eqUint32S.calls k _ _ l0_1 _ _ l1_1 true _ ?side1 ?side2 ?side3 ?side4 A9.out).mono ?_); (case side1 => repeat (first | exact (Kd.C_below HR0_1.out HB.out) | (with_reducible refine Kd.C_alloc ?_ _) | (with_reducible refine Kd.C_drewN ?_ _) | (with_reducible refine Kd.C_drew ?_))); (case side2 => exact HC0_1.out); (case side3 => repeat (first | exact (Kd.C_below HR1_1.out HB.out) | (with_reducible refine Kd.C_alloc ?_ _) | (with_reducible refine Kd.C_drewN ?_ _) | (with_reducible refine Kd.C_drew ?_))); (case side4 => exact HC1_1.out); rintro e w' ⟨rfl, ⟨nd, rfl⟩⟩; refine ⟨_, rfl, ?_⟩) | ((with_reducible refine gate_callee (f := 107) rfl ?_); refine goesL_ (some 20) rfl rfl Try.func107 (by kernel_rfl) rfl #[.slice A0_2 l0_2.length c0_2, .slice A1_2 l1_2.length c1_2] rfl (by (try simp only [List.map_toArray, List.map_cons, List.map_nil]); first | done | rfl | (simp only [List.length_drop, List.length_take]; rfl)) ?_; (with_reducible refine (laws_eqUint32S.calls k _ _ l0_2 _ _ l1_2 true _ ?side1 ?side2 ?side3 ?side4 A11.out).mono ?_); (case side1 => repeat (first | exact (Kd.C_below HR0_2.out (by repeat (first | (with_reducible first | exact HB.out | apply below_alloc | apply pw_below_drewN | apply below_drew1 | refine below_set ?_ GE199.out | refine below_set ?_ GE200.out) | exact HB.out))) | (with_reducible refine Kd.C_alloc ?_ _) | (with_reducible refine Kd.C_drewN ?_ _) | (with_reducible refine Kd.C_drew ?_))); (case side2 => exact HC0_2.out); (case side3 => repeat (first | exact (Kd.C_below HR1_2.out (by repeat (first | (with_reducible first | exact HB.out | apply below_alloc | apply pw_below_drewN | apply below_drew1 | refine below_set ?_ GE199.out | refine below_set ?_ GE200.out) | exact HB.out))) | (with_reducible refine Kd.C_alloc ?_ _) | (with_reducible refine Kd.C_drewN ?_ _) | (with_reducible refine Kd.C_drew ?_))); (case side4 => exact HC1_2.out); rintro e w' ⟨rfl, ⟨nd, rfl⟩⟩; refine ⟨_, rfl, ?_⟩))
        go_ret
        exact ⟨by first | rfl | (simp [errW_none, errW_some] <;> rfl) | (simp [*, errW_none, errW_some] <;> rfl), by repeat (first | (with_reducible first | exact HB.out | apply below_alloc | apply pw_below_drewN | apply below_drew1 | refine below_set ?_ GE199.out | refine below_set ?_ GE200.out) | exact HB.out)⟩
      · replace c12 := Bool.eq_false_iff.mpr c12
        subst c12
        have H1 : (some false) = some r := by rw [if_neg (show ¬ (false = true) by decide)] at H; exact H
        clear H
        have H := H1
        clear H1
        obtain rfl := Option.some.inj H
        go_enter Try.func67, Try.ntmps67
        go_wp2_with (first | ((with_reducible refine gate_dst (N := 2) rfl ?_); refine box_event ?hg (N := 2) ?hd (cs := #[.bool a0_0, .slice A0_1 l0_1.length c0_1, .slice A0_2 l0_2.length c0_2]) (t := 26) ?hr ?_; (case hd => rfl); (case hg => rfl); (case hr => first | (go_simp; done) | (go_simp; rfl)); intro gb199 hg w18 hbox hb; have n0_ := Aside0.mk (below_step (by repeat (first | (with_reducible first | exact HB.out | apply below_alloc | apply pw_below_drewN | apply below_drew1) | exact HB.out)) hb); have n1_ := Aside0.mk (hbox); have n2_ := Aside0.mk ((by rw [hg]; exact (below_size (by repeat (first | (with_reducible first | exact HB.out | apply below_alloc | apply pw_below_drewN | apply below_drew1) | exact HB.out))) : w.heap.size ≤ gb199)); have n3_ := Aside0.mk ((by rw [hg]; exact (below_size (by repeat (first | (with_reducible first | exact HB.out | apply below_alloc | apply pw_below_drewN | apply below_drew1) | exact HB.out))) : w.heap.size ≤ gb199)); clear HB; have HB := n0_; have BK199 := n1_; have GW199 := n2_; have GE199 := n3_; clear n0_ n1_ n2_ n3_; clear hb hbox hg) | ((with_reducible refine gate_dst (N := 3) rfl ?_); refine box_event ?hg (N := 3) ?hd (cs := #[.bool a1_0, .slice A1_1 l1_1.length c1_1, .slice A1_2 l1_2.length c1_2]) (t := 26) ?hr ?_; (case hd => rfl); (case hg => rfl); (case hr => first | (go_simp; done) | (go_simp; rfl)); intro gb200 hg w19 hbox hb; have n0_ := Aside0.mk (blk_below (g := gb199) (o := .cells #[.bool a0_0, .slice A0_1 l0_1.length c0_1, .slice A0_2 l0_2.length c0_2] 26 (0, 0)) (by (with_reducible repeat (first | refine blk_drewN ?_ _ | refine blk_drew ?_ | refine blk_alloc ?_ _)); exact BK199.out) hb); have n1_ := Aside0.mk (below_step (by repeat (first | (with_reducible first | exact HB.out | apply below_alloc | apply pw_below_drewN | apply below_drew1 | refine below_set ?_ GE199.out) | exact HB.out)) hb); have n2_ := Aside0.mk (hbox); have n3_ := Aside0.mk ((by rw [hg]; exact (below_size (by repeat (first | (with_reducible first | exact HB.out | apply below_alloc | apply pw_below_drewN | apply below_drew1 | refine below_set ?_ GE199.out) | exact HB.out))) : w.heap.size ≤ gb200)); have n4_ := Aside0.mk ((by rw [hg]; exact (below_size (by repeat (first | (with_reducible first | exact HB.out | apply below_alloc | apply pw_below_drewN | apply below_drew1 | refine below_set ?_ GE199.out) | exact HB.out))) : w.heap.size ≤ gb200)); have n5_ := Aside0.mk ((by rw [hg]; exact Nat.ne_of_lt (blk_lt (g := gb199) (o := .cells #[.bool a0_0, .slice A0_1 l0_1.length c0_1, .slice A0_2 l0_2.length c0_2] 26 (0, 0)) (by (with_reducible repeat (first | refine blk_drewN ?_ _ | refine blk_drew ?_ | refine blk_alloc ?_ _)); exact BK199.out)) : gb199 ≠ gb200)); have n6_ := Aside0.mk ((by rw [hg]; exact Nat.ne_of_gt (blk_lt (g := gb199) (o := .cells #[.bool a0_0, .slice A0_1 l0_1.length c0_1, .slice A0_2 l0_2.length c0_2] 26 (0, 0)) (by (with_reducible repeat (first | refine blk_drewN ?_ _ | refine blk_drew ?_ | refine blk_alloc ?_ _)); exact BK199.out)) : gb200 ≠ gb199)); clear BK199; clear HB; have BK199 := n0_; have HB := n1_; have BK200 := n2_; have GW200 := n3_; have GE200 := n4_; have NB199_200 := n5_; have NB200_199 := n6_; clear n0_ n1_ n2_ n3_ n4_ n5_ n6_; clear hb hbox hg; have hnb20 := NB199_200.out; have hnc20 := NB200_199.out; have hcz21_0 : w19.cell? ⟨gb199, 0, none⟩ = some (.bool a0_0) := (blk_cell BK199.out 0).trans rfl; have hcz21_1 : w19.cell? ⟨gb199, 1, none⟩ = some (.slice A0_1 l0_1.length c0_1) := (blk_cell BK199.out 1).trans rfl; have hcz21_2 : w19.cell? ⟨gb199, 2, none⟩ = some (.slice A0_2 l0_2.length c0_2) := (blk_cell BK199.out 2).trans rfl; have hfz21_0 := blk_frozen BK199.out 0; have hfz21_1 := blk_frozen BK199.out 1; have hfz21_2 := blk_frozen BK199.out 2; have hcz22_0 : w19.cell? ⟨gb200, 0, none⟩ = some (.bool a1_0) := (blk_cell BK200.out 0).trans rfl; have hcz22_1 : w19.cell? ⟨gb200, 1, none⟩ = some (.slice A1_1 l1_1.length c1_1) := (blk_cell BK200.out 1).trans rfl; have hcz22_2 : w19.cell? ⟨gb200, 2, none⟩ = some (.slice A1_2 l1_2.length c1_2) := (blk_cell BK200.out 2).trans rfl; have hfz22_0 := blk_frozen BK200.out 0; have hfz22_1 := blk_frozen BK200.out 1; have hfz22_2 := blk_frozen BK200.out 2) | ((with_reducible refine gate_callee (f := 107) rfl ?_); refine goesL_ (some 14) rfl rfl Try.func107 (by kernel_rfl) rfl #[.slice A0_1 l0_1.length c0_1, .slice A1_1 l1_1.length c1_1] rfl (by (try simp only [List.map_toArray, List.map_cons, List.map_nil]); first | done | rfl | (simp only [List.length_drop, List.length_take]; rfl)) ?_; (with_reducible refine (laws_eqUint32S.calls k _ _ l0_1 _ _ l1_1 true _ ?side1 ?side2 ?side3 ?side4 A9.out).mono ?_); (case side1 => repeat (first | exact (Kd.C_below HR0_1.out HB.out) | (with_reducible refine Kd.C_alloc ?_ _) | (with_reducible refine Kd.C_drewN ?_ _) | (with_reducible refine Kd.C_drew ?_))); (case side2 => exact HC0_1.out); (case side3 => repeat (first | exact (Kd.C_below HR1_1.out HB.out) | (with_reducible refine Kd.C_alloc ?_ _) | (with_reducible refine Kd.C_drewN ?_ _) | (with_reducible refine Kd.C_drew ?_))); (case side4 => exact HC1_1.out); rintro e w' ⟨rfl, ⟨nd, rfl⟩⟩; refine ⟨_, rfl, ?_⟩) | ((with_reducible refine gate_callee (f := 107) rfl ?_); refine goesL_ (some 20) rfl rfl Try.func107 (by kernel_rfl) rfl #[.slice A0_2 l0_2.length c0_2, .slice A1_2 l1_2.length c1_2] rfl (by (try simp only [List.map_toArray, List.map_cons, List.map_nil]); first | done | rfl | (simp only [List.length_drop, List.length_take]; rfl)) ?_; (with_reducible refine (laws_eqUint32S.calls k _ _ l0_2 _ _ l1_2 false _ ?side1 ?side2 ?side3 ?side4 A11.out).mono ?_); (case side1 => repeat (first | exact (Kd.C_below HR0_2.out (by repeat (first | (with_reducible first | exact HB.out | apply below_alloc | apply pw_below_drewN | apply below_drew1 | refine below_set ?_ GE199.out | refine below_set ?_ GE200.out) | exact HB.out))) | (with_reducible refine Kd.C_alloc ?_ _) | (with_reducible refine Kd.C_drewN ?_ _) | (with_reducible refine Kd.C_drew ?_))); (case side2 => exact HC0_2.out); (case side3 => repeat (first | exact (Kd.C_below HR1_2.out (by repeat (first | (with_reducible first | exact HB.out | apply below_alloc | apply pw_below_drewN | apply below_drew1 | refine below_set ?_ GE199.out | refine below_set ?_ GE200.out) | exact HB.out))) | (with_reducible refine Kd.C_alloc ?_ _) | (with_reducible refine Kd.C_drewN ?_ _) | (with_reducible refine Kd.C_drew ?_))); (case side4 => exact HC1_2.out); rintro e w' ⟨rfl, ⟨nd, rfl⟩⟩; refine ⟨_, rfl, ?_⟩))
        go_ret
        exact ⟨by first | rfl | (simp [errW_none, errW_some] <;> rfl) | (simp [*, errW_none, errW_some] <;> rfl), by repeat (first | (with_reducible first | exact HB.out | apply below_alloc | apply pw_below_drewN | apply below_drew1 | refine below_set ?_ GE199.out | refine below_set ?_ GE200.out) | exact HB.out)⟩
    · replace c10 := Bool.eq_false_iff.mpr c10
      subst c10
      have H1 : (some false) = some r := by rw [if_neg (show ¬ (false = true) by decide)] at H; exact H
      clear H
      have H := H1
      clear H1
      obtain rfl := Option.some.inj H
      go_enter Try.func67, Try.ntmps67
      go_wp2_with (first | ((with_reducible refine gate_dst (N := 2) rfl ?_); refine box_event ?hg (N := 2) ?hd (cs := #[.bool a0_0, .slice A0_1 l0_1.length c0_1, .slice A0_2 l0_2.length c0_2]) (t := 26) ?hr ?_; (case hd => rfl); (case hg => rfl); (case hr => first | (go_simp; done) | (go_simp; rfl)); intro gb199 hg w23 hbox hb; have n0_ := Aside0.mk (below_step (by repeat (first | (with_reducible first | exact HB.out | apply below_alloc | apply pw_below_drewN | apply below_drew1) | exact HB.out)) hb); have n1_ := Aside0.mk (hbox); have n2_ := Aside0.mk ((by rw [hg]; exact (below_size (by repeat (first | (with_reducible first | exact HB.out | apply below_alloc | apply pw_below_drewN | apply below_drew1) | exact HB.out))) : w.heap.size ≤ gb199)); have n3_ := Aside0.mk ((by rw [hg]; exact (below_size (by repeat (first | (with_reducible first | exact HB.out | apply below_alloc | apply pw_below_drewN | apply below_drew1) | exact HB.out))) : w.heap.size ≤ gb199)); clear HB; have HB := n0_; have BK199 := n1_; have GW199 := n2_; have GE199 := n3_; clear n0_ n1_ n2_ n3_; clear hb hbox hg) | ((with_reducible refine gate_dst (N := 3) rfl ?_); refine box_event ?hg (N := 3) ?hd (cs := #[.bool a1_0, .slice A1_1 l1_1.length c1_1, .slice A1_2 l1_2.length c1_2]) (t := 26) ?hr ?_; (case hd => rfl); (case hg => rfl); (case hr => first | (go_simp; done) | (go_simp; rfl)); intro gb200 hg w24 hbox hb; have n0_ := Aside0.mk (blk_below (g := gb199) (o := .cells #[.bool a0_0, .slice A0_1 l0_1.length c0_1, .slice A0_2 l0_2.length c0_2] 26 (0, 0)) (by (with_reducible repeat (first | refine blk_drewN ?_ _ | refine blk_drew ?_ | refine blk_alloc ?_ _)); exact BK199.out) hb); have n1_ := Aside0.mk (below_step (by repeat (first | (with_reducible first | exact HB.out | apply below_alloc | apply pw_below_drewN | apply below_drew1 | refine below_set ?_ GE199.out) | exact HB.out)) hb); have n2_ := Aside0.mk (hbox); have n3_ := Aside0.mk ((by rw [hg]; exact (below_size (by repeat (first | (with_reducible first | exact HB.out | apply below_alloc | apply pw_below_drewN | apply below_drew1 | refine below_set ?_ GE199.out) | exact HB.out))) : w.heap.size ≤ gb200)); have n4_ := Aside0.mk ((by rw [hg]; exact (below_size (by repeat (first | (with_reducible first | exact HB.out | apply below_alloc | apply pw_below_drewN | apply below_drew1 | refine below_set ?_ GE199.out) | exact HB.out))) : w.heap.size ≤ gb200)); have n5_ := Aside0.mk ((by rw [hg]; exact Nat.ne_of_lt (blk_lt (g := gb199) (o := .cells #[.bool a0_0, .slice A0_1 l0_1.length c0_1, .slice A0_2 l0_2.length c0_2] 26 (0, 0)) (by (with_reducible repeat (first | refine blk_drewN ?_ _ | refine blk_drew ?_ | refine blk_alloc ?_ _)); exact BK199.out)) : gb199 ≠ gb200)); have n6_ := Aside0.mk ((by rw [hg]; exact Nat.ne_of_gt (blk_lt (g := gb199) (o := .cells #[.bool a0_0, .slice A0_1 l0_1.length c0_1, .slice A0_2 l0_2.length c0_2] 26 (0, 0)) (by (with_reducible repeat (first | refine blk_drewN ?_ _ | refine blk_drew ?_ | refine blk_alloc ?_ _)); exact BK199.out)) : gb200 ≠ gb199)); clear BK199; clear HB; have BK199 := n0_; have HB := n1_; have BK200 := n2_; have GW200 := n3_; have GE200 := n4_; have NB199_200 := n5_; have NB200_199 := n6_; clear n0_ n1_ n2_ n3_ n4_ n5_ n6_; clear hb hbox hg; have hnb25 := NB199_200.out; have hnc25 := NB200_199.out; have hcz26_0 : w24.cell? ⟨gb199, 0, none⟩ = some (.bool a0_0) := (blk_cell BK199.out 0).trans rfl; have hcz26_1 : w24.cell? ⟨gb199, 1, none⟩ = some (.slice A0_1 l0_1.length c0_1) := (blk_cell BK199.out 1).trans rfl; have hcz26_2 : w24.cell? ⟨gb199, 2, none⟩ = some (.slice A0_2 l0_2.length c0_2) := (blk_cell BK199.out 2).trans rfl; have hfz26_0 := blk_frozen BK199.out 0; have hfz26_1 := blk_frozen BK199.out 1; have hfz26_2 := blk_frozen BK199.out 2; have hcz27_0 : w24.cell? ⟨gb200, 0, none⟩ = some (.bool a1_0) := (blk_cell BK200.out 0).trans rfl; have hcz27_1 : w24.cell? ⟨gb200, 1, none⟩ = some (.slice A1_1 l1_1.length c1_1) := (blk_cell BK200.out 1).trans rfl; have hcz27_2 : w24.cell? ⟨gb200, 2, none⟩ = some (.slice A1_2 l1_2.length c1_2) := (blk_cell BK200.out 2).trans rfl; have hfz27_0 := blk_frozen BK200.out 0; have hfz27_1 := blk_frozen BK200.out 1; have hfz27_2 := blk_frozen BK200.out 2) | ((with_reducible refine gate_callee (f := 107) rfl ?_); refine goesL_ (some 14) rfl rfl Try.func107 (by kernel_rfl) rfl #[.slice A0_1 l0_1.length c0_1, .slice A1_1 l1_1.length c1_1] rfl (by (try simp only [List.map_toArray, List.map_cons, List.map_nil]); first | done | rfl | (simp only [List.length_drop, List.length_take]; rfl)) ?_; (with_reducible refine (laws_eqUint32S.calls k _ _ l0_1 _ _ l1_1 false _ ?side1 ?side2 ?side3 ?side4 A9.out).mono ?_); (case side1 => repeat (first | exact (Kd.C_below HR0_1.out HB.out) | (with_reducible refine Kd.C_alloc ?_ _) | (with_reducible refine Kd.C_drewN ?_ _) | (with_reducible refine Kd.C_drew ?_))); (case side2 => exact HC0_1.out); (case side3 => repeat (first | exact (Kd.C_below HR1_1.out HB.out) | (with_reducible refine Kd.C_alloc ?_ _) | (with_reducible refine Kd.C_drewN ?_ _) | (with_reducible refine Kd.C_drew ?_))); (case side4 => exact HC1_1.out); rintro e w' ⟨rfl, ⟨nd, rfl⟩⟩; refine ⟨_, rfl, ?_⟩))
      go_ret
      exact ⟨by first | rfl | (simp [errW_none, errW_some] <;> rfl) | (simp [*, errW_none, errW_some] <;> rfl), by repeat (first | (with_reducible first | exact HB.out | apply below_alloc | apply pw_below_drewN | apply below_drew1 | refine below_set ?_ GE199.out | refine below_set ?_ GE200.out) | exact HB.out)⟩
end Go.Proofs.Ytlpckbleokoiiaa.Print
end
