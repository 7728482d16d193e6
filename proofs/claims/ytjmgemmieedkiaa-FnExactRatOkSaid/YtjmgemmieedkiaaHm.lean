/- Helper facts of this claim: blocks that are known whole, prefixes of slices that are read, and the length of a list of limbs without its zeros at the end. Conditions: none. -/
import Derived.Test.YtjmgemmieedkiaaWMore
import Derived.Test.YtjmgemmieedkiaaWAt
import Derived.Test.YtjmgemmieedkiaaProg
set_option linter.unusedVariables false
set_option linter.unusedSimpArgs false
namespace Go.Proofs.Ytjmgemmieedkiaa.Hand
open Go.RowKit Go.Proofs.YtjmgemmieedkiaaW.PrintWords Go.Proofs.YtjmgemmieedkiaaW.PrintLast Go.Proofs.YtjmgemmieedkiaaW.PrintMore

/-- Block g holds just the cells cs of type t. -/
def Blk (w : World) (g : Nat) (t : TypeId) (cs : Array Value) : Prop := w.heap[g]? = some (.cells cs t (0, 0))

section
variable {w w' : World} {g : Nat} {t : TypeId} {cs : Array Value}
theorem Blk.lt (h : Blk w g t cs) : g < w.heap.size := by
  rcases Nat.lt_or_ge g w.heap.size with hlt | hge
  · exact hlt
  · unfold Blk at h; rw [Array.getElem?_eq_none hge] at h; cases h
theorem Blk.cell (h : Blk w g t cs) (i : Nat) : w.cell? ⟨g, i, none⟩ = cs[i]? := cell_of_row w g i cs t (0, 0) h
theorem Blk.frozen (h : Blk w g t cs) (i : Nat) : w.frozen? ⟨g, i, none⟩ = false := by
  unfold Blk at h
  simp [World.frozen?, h]
theorem Blk.new (w : World) (t : TypeId) (cs : Array Value) : Blk (w.alloc (.cells cs t)) w.heap.size t cs := heap_alloc_new w _
theorem Blk.drew (h : Blk w g t cs) : Blk w.drew g t cs := h
theorem Blk.drewN (h : Blk w g t cs) (n : Nat) : Blk (w.drewN n) g t cs := h
theorem Blk.alloc (h : Blk w g t cs) (o : Obj) : Blk (w.alloc o) g t cs := (Below.heap_alloc w o g h.lt).trans h
theorem Blk.set_ (h : Blk w g t cs) (i : Nat) (u : Value) : Blk (w.setCell ⟨g, i, none⟩ u) g t (cs.setIfInBounds i u) := by
  unfold Blk at h ⊢
  simp [World.setCell, Array.getElem?_modify, h]
theorem Blk.far (h : Blk w g t cs) {p : Addr} (hp : g ≠ p.block) (u : Value) : Blk (w.setCell p u) g t cs := (Below.heap_setCell w p u g hp).trans h
theorem Blk.below {B : Nat} (h : Blk w g t cs) (hb : Below B w w') (hg : g < B) : Blk w' g t cs := (hb.block g hg).trans h
theorem Blk.grown {row : Option Nat} (h : Blk w g t cs) (hb : w.grownBy w' row) (hg : some g ≠ row) : Blk w' g t cs := (hb.block g h.lt hg).trans h
end

theorem grown_drewN {a w : World} {row : Option Nat} (h : a.grownBy w row) (n : Nat) : a.grownBy (w.drewN n) row := ⟨h.os, h.tape, h.output, h.size, h.block⟩
theorem grown_drew {a w : World} {row : Option Nat} (h : a.grownBy w row) : a.grownBy w.drew row := ⟨h.os, h.tape, h.output, h.size, h.block⟩
theorem grown_alloc {a w : World} {row : Option Nat} (h : a.grownBy w row) (o : Obj) : a.grownBy (w.alloc o) row :=
  ⟨h.os, h.tape, h.output, Nat.le_trans h.size (by simp), fun i hi hne => (Below.heap_alloc w o i (Nat.lt_of_lt_of_le hi h.size)).trans (h.block i hi hne)⟩
theorem grown_set {a w : World} {g : Nat} (h : a.grownBy w (some g)) {p : Addr} (hp : p.block = g ∨ a.heap.size ≤ p.block) (u : Value) : a.grownBy (w.setCell p u) (some g) :=
  ⟨h.os, h.tape, h.output, by simpa [World.setCell] using h.size, fun i hi hne => (Below.heap_setCell w p u i (by
    rintro rfl
    rcases hp with hp | hp
    · exact hne (by rw [hp])
    · omega)).trans (h.block i hi hne)⟩
theorem grown_below {a w : World} (h : Below a.heap.size a w) (row : Option Nat) : a.grownBy w row := ⟨h.os, h.tape, h.output, h.size, fun i hi _ => h.block i hi⟩

/-- Cells that are read lie in no block of one cell that holds no whole number. -/
theorem reads_set {w : World} {k : IntKind} {A : Option Addr} {n : Nat} {xs : List Int} {g : Nat} {t : TypeId} {v : Value} (h : (Kd.int k).C w A n xs) (hb : Blk w g t #[v]) (hv : ∀ x, v ≠ .int k x) (u : Value) :
    (Kd.int k).C (w.setCell ⟨g, 0, none⟩ u) A n xs := by
  refine ⟨h.1, h.2.1, fun hn => ?_⟩
  obtain ⟨ad, e, hc⟩ := h.2.2 hn
  refine ⟨ad, e, fun j p hj => ?_⟩
  obtain ⟨c, hl, hK, hcell⟩ := hc j p hj
  refine ⟨c, hl, hK, fun i x hx => ?_⟩
  have h1 := hcell i x hx
  have hce : c = [.int k p] := hK
  have hxe : x = .int k p := by
    subst hce
    rcases i with _ | i
    · simpa using hx.symm
    · simp at hx
  by_cases he : ad.add (j * (Kd.int k).sz + i) = ⟨g, 0, none⟩
  · rw [he, hb.cell] at h1
    simp at h1
    exact absurd (h1.trans hxe) (hv p)
  · rw [World.cell?_setCell_other w _ _ _ (Ne.symm he)]; exact h1

/-- The number of limbs that stay when zeros at the end are dropped; only the first n are looked at. -/
def trimTo (l : List Int) : Nat → Nat
  | 0 => 0
  | n + 1 => if rd l (n : Int) = 0 then trimTo l n else n + 1
def trimN (l : List Int) : Nat := trimTo l l.length
theorem trimTo_le (l : List Int) : ∀ n, trimTo l n ≤ n
  | 0 => Nat.le_refl _
  | n + 1 => by
    unfold trimTo
    split
    · exact Nat.le_succ_of_le (trimTo_le l n)
    · exact Nat.le_refl _
theorem trimN_le (l : List Int) : trimN l ≤ l.length := trimTo_le l _
def trimL (l : List Int) : List Int := l.take (trimN l)
theorem trimL_length (l : List Int) : (trimL l).length = trimN l := by
  unfold trimL
  rw [List.length_take, Nat.min_eq_left (trimN_le l)]
end Go.Proofs.Ytjmgemmieedkiaa.Hand
