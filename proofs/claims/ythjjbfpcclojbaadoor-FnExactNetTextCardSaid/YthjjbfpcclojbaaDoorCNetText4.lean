/- Texts of one proof, one behind the other: each tells what it proves. -/
import Derived.Test.YthjjbfpcclojbaaDoorCNetText2
import Derived.Test.YthjjbfpcclojbaaDoorProg
import Derived.Laws.BitsAllLaws
import Derived.Lib.Hide
import Derived.Laws.Slices
import Derived.Lib.SmallJoins
import Derived.Deep.Slices
import Derived.Shelf.Strings.Builder1
import Derived.Shelf.Strings.Builder2
import Derived.Shelf.Strings.OnBuilder
import Derived.Shelf.Small.Bits
import Derived.Shelf.Small.Wraps
import Derived.Shelf.Strings.BuilderF
import Derived.Shelf.Strings.BuilderK
import Derived.Shelf.Strings.Builder2Cap
import Derived.Shelf.Strconv.Itoa0
import Derived.Shelf.Strconv.Itoa1
import Derived.Shelf.LaysM
import Derived.Shelf.Strconv.Itoa2
import Derived.Shelf.Strconv.Itoa3
import Derived.Shelf.Strings.BuilderCap
import Derived.Ground.Names2Prog
import Derived.Shelf.Slices.SearchI

section
/- The types of the program as a table. No condition. -/
set_option maxRecDepth 100000
namespace Go.Proofs.YthjjbfpcclojbaaDoor.Pv
def tbF : Nat → Option TI
  | 2 => some ⟨1, false, 7, 8, 3, [], [.int .i64 0]⟩
  | 3 => some ⟨1, false, 7, 8, 3, [], [.int .i64 0]⟩
  | 4 => some ⟨1, false, 1, 1, 0, [], [.bool false]⟩
  | 5 => some ⟨1, false, 7, 1, 4, [], [.int .u8 0]⟩
  | 9 => some ⟨1, false, 6, 16, 0, [], [.string { data := #[] }]⟩
  | 22 => some ⟨1, false, 2, 24, 64, [], [.slice none 0 0]⟩
  | 24 => some ⟨1, true, 9, 24, 0, [(0, 1, false)], [.slice none 0 0]⟩
  | 27 => some ⟨1, false, 2, 24, 39, [], [.slice none 0 0]⟩
  | 29 => some ⟨1, true, 9, 24, 0, [(0, 1, false)], [.slice none 0 0]⟩
  | 35 => some ⟨1, false, 2, 24, 5, [], [.slice none 0 0]⟩
  | 37 => some ⟨1, false, 2, 24, 58, [], [.slice none 0 0]⟩
  | 39 => some ⟨4, true, 9, 64, 0, [(0, 1, false), (1, 1, false), (2, 1, false), (3, 1, false)], [.int .i64 0, .int .i64 0, .slice none 0 0, .slice none 0 0]⟩
  | 42 => some ⟨1, false, 5, 8, 44, [], [.pointer none]⟩
  | 44 => some ⟨2, true, 9, 32, 0, [(0, 1, false), (1, 1, false)], [.pointer none, .slice none 0 0]⟩
  | 45 => some ⟨1, false, 2, 24, 9, [], [.slice none 0 0]⟩
  | 53 => some ⟨3, true, 9, 40, 0, [(0, 1, false), (1, 1, false), (2, 1, false)], [.int .i64 0, .int .i64 0, .slice none 0 0]⟩
  | 56 => some ⟨1, false, 2, 24, 84, [], [.slice none 0 0]⟩
  | 58 => some ⟨3, true, 9, 56, 0, [(0, 1, false), (1, 1, false), (2, 1, false)], [.bool false, .slice none 0 0, .slice none 0 0]⟩
  | 62 => some ⟨1, false, 2, 24, 95, [], [.slice none 0 0]⟩
  | 64 => some ⟨4, true, 9, 64, 0, [(0, 1, false), (1, 1, false), (2, 1, false), (3, 1, false)], [.int .i64 0, .int .i64 0, .slice none 0 0, .slice none 0 0]⟩
  | 69 => some ⟨1, false, 2, 24, 4, [], [.slice none 0 0]⟩
  | 71 => some ⟨1, false, 7, 8, 7, [], [.int .u64 0]⟩
  | 77 => some ⟨1, false, 2, 24, 84, [], [.slice none 0 0]⟩
  | 79 => some ⟨1, false, 5, 8, 5, [], [.pointer none]⟩
  | 84 => some ⟨1, false, 7, 4, 6, [], [.int .u32 0]⟩
  | 87 => some ⟨1, false, 0, 8, 0, [], [.pointer none]⟩
  | 95 => some ⟨3, true, 9, 56, 0, [(0, 1, false), (1, 1, false), (2, 1, false)], [.bool false, .slice none 0 0, .slice none 0 0]⟩
  | 101 => some ⟨24, true, 10, 24, 5, [], [.int .u8 0, .int .u8 0, .int .u8 0, .int .u8 0, .int .u8 0, .int .u8 0, .int .u8 0, .int .u8 0, .int .u8 0, .int .u8 0, .int .u8 0, .int .u8 0, .int .u8 0, .int .u8 0, .int .u8 0, .int .u8 0, .int .u8 0, .int .u8 0, .int .u8 0, .int .u8 0, .int .u8 0, .int .u8 0, .int .u8 0, .int .u8 0]⟩
  | 106 => some ⟨1, false, 5, 8, 77, [], [.pointer none]⟩
  | 107 => some ⟨1, false, 7, 8, 7, [], [.int .u64 0]⟩
  | 122 => some ⟨20, true, 10, 160, 71, [], [.int .u64 0, .int .u64 0, .int .u64 0, .int .u64 0, .int .u64 0, .int .u64 0, .int .u64 0, .int .u64 0, .int .u64 0, .int .u64 0, .int .u64 0, .int .u64 0, .int .u64 0, .int .u64 0, .int .u64 0, .int .u64 0, .int .u64 0, .int .u64 0, .int .u64 0, .int .u64 0]⟩
  | _ => none
theorem tok2 : TOk Tryd.prog 2 ⟨1, false, 7, 8, 3, [], [.int .i64 0]⟩ := ⟨_, _, _, rfl, rfl, rfl, rfl, rfl, rfl, rfl, rfl, rfl, rfl, rfl, by decide, rfl⟩
theorem tok3 : TOk Tryd.prog 3 ⟨1, false, 7, 8, 3, [], [.int .i64 0]⟩ := ⟨_, _, _, rfl, rfl, rfl, rfl, rfl, rfl, rfl, rfl, rfl, rfl, rfl, by decide, rfl⟩
theorem tok4 : TOk Tryd.prog 4 ⟨1, false, 1, 1, 0, [], [.bool false]⟩ := ⟨_, _, _, rfl, rfl, rfl, rfl, rfl, rfl, rfl, rfl, rfl, rfl, rfl, by decide, rfl⟩
theorem tok5 : TOk Tryd.prog 5 ⟨1, false, 7, 1, 4, [], [.int .u8 0]⟩ := ⟨_, _, _, rfl, rfl, rfl, rfl, rfl, rfl, rfl, rfl, rfl, rfl, rfl, by decide, rfl⟩
theorem tok9 : TOk Tryd.prog 9 ⟨1, false, 6, 16, 0, [], [.string { data := #[] }]⟩ := ⟨_, _, _, rfl, rfl, rfl, rfl, rfl, rfl, rfl, rfl, rfl, rfl, rfl, by decide, rfl⟩
theorem tok22 : TOk Tryd.prog 22 ⟨1, false, 2, 24, 64, [], [.slice none 0 0]⟩ := ⟨_, _, _, rfl, rfl, rfl, rfl, rfl, rfl, rfl, rfl, rfl, rfl, rfl, by decide, rfl⟩
theorem tok24 : TOk Tryd.prog 24 ⟨1, true, 9, 24, 0, [(0, 1, false)], [.slice none 0 0]⟩ := ⟨_, _, _, rfl, rfl, rfl, rfl, rfl, rfl, rfl, rfl, rfl, rfl, rfl, by decide, rfl⟩
theorem tok27 : TOk Tryd.prog 27 ⟨1, false, 2, 24, 39, [], [.slice none 0 0]⟩ := ⟨_, _, _, rfl, rfl, rfl, rfl, rfl, rfl, rfl, rfl, rfl, rfl, rfl, by decide, rfl⟩
theorem tok29 : TOk Tryd.prog 29 ⟨1, true, 9, 24, 0, [(0, 1, false)], [.slice none 0 0]⟩ := ⟨_, _, _, rfl, rfl, rfl, rfl, rfl, rfl, rfl, rfl, rfl, rfl, rfl, by decide, rfl⟩
theorem tok35 : TOk Tryd.prog 35 ⟨1, false, 2, 24, 5, [], [.slice none 0 0]⟩ := ⟨_, _, _, rfl, rfl, rfl, rfl, rfl, rfl, rfl, rfl, rfl, rfl, rfl, by decide, rfl⟩
theorem tok37 : TOk Tryd.prog 37 ⟨1, false, 2, 24, 58, [], [.slice none 0 0]⟩ := ⟨_, _, _, rfl, rfl, rfl, rfl, rfl, rfl, rfl, rfl, rfl, rfl, rfl, by decide, rfl⟩
theorem tok39 : TOk Tryd.prog 39 ⟨4, true, 9, 64, 0, [(0, 1, false), (1, 1, false), (2, 1, false), (3, 1, false)], [.int .i64 0, .int .i64 0, .slice none 0 0, .slice none 0 0]⟩ := ⟨_, _, _, rfl, rfl, rfl, rfl, rfl, rfl, rfl, rfl, rfl, rfl, rfl, by decide, rfl⟩
theorem tok42 : TOk Tryd.prog 42 ⟨1, false, 5, 8, 44, [], [.pointer none]⟩ := ⟨_, _, _, rfl, rfl, rfl, rfl, rfl, rfl, rfl, rfl, rfl, rfl, rfl, by decide, rfl⟩
theorem tok44 : TOk Tryd.prog 44 ⟨2, true, 9, 32, 0, [(0, 1, false), (1, 1, false)], [.pointer none, .slice none 0 0]⟩ := ⟨_, _, _, rfl, rfl, rfl, rfl, rfl, rfl, rfl, rfl, rfl, rfl, rfl, by decide, rfl⟩
theorem tok45 : TOk Tryd.prog 45 ⟨1, false, 2, 24, 9, [], [.slice none 0 0]⟩ := ⟨_, _, _, rfl, rfl, rfl, rfl, rfl, rfl, rfl, rfl, rfl, rfl, rfl, by decide, rfl⟩
theorem tok53 : TOk Tryd.prog 53 ⟨3, true, 9, 40, 0, [(0, 1, false), (1, 1, false), (2, 1, false)], [.int .i64 0, .int .i64 0, .slice none 0 0]⟩ := ⟨_, _, _, rfl, rfl, rfl, rfl, rfl, rfl, rfl, rfl, rfl, rfl, rfl, by decide, rfl⟩
theorem tok56 : TOk Tryd.prog 56 ⟨1, false, 2, 24, 84, [], [.slice none 0 0]⟩ := ⟨_, _, _, rfl, rfl, rfl, rfl, rfl, rfl, rfl, rfl, rfl, rfl, rfl, by decide, rfl⟩
theorem tok58 : TOk Tryd.prog 58 ⟨3, true, 9, 56, 0, [(0, 1, false), (1, 1, false), (2, 1, false)], [.bool false, .slice none 0 0, .slice none 0 0]⟩ := ⟨_, _, _, rfl, rfl, rfl, rfl, rfl, rfl, rfl, rfl, rfl, rfl, rfl, by decide, rfl⟩
theorem tok62 : TOk Tryd.prog 62 ⟨1, false, 2, 24, 95, [], [.slice none 0 0]⟩ := ⟨_, _, _, rfl, rfl, rfl, rfl, rfl, rfl, rfl, rfl, rfl, rfl, rfl, by decide, rfl⟩
theorem tok64 : TOk Tryd.prog 64 ⟨4, true, 9, 64, 0, [(0, 1, false), (1, 1, false), (2, 1, false), (3, 1, false)], [.int .i64 0, .int .i64 0, .slice none 0 0, .slice none 0 0]⟩ := ⟨_, _, _, rfl, rfl, rfl, rfl, rfl, rfl, rfl, rfl, rfl, rfl, rfl, by decide, rfl⟩
theorem tok69 : TOk Tryd.prog 69 ⟨1, false, 2, 24, 4, [], [.slice none 0 0]⟩ := ⟨_, _, _, rfl, rfl, rfl, rfl, rfl, rfl, rfl, rfl, rfl, rfl, rfl, by decide, rfl⟩
theorem tok71 : TOk Tryd.prog 71 ⟨1, false, 7, 8, 7, [], [.int .u64 0]⟩ := ⟨_, _, _, rfl, rfl, rfl, rfl, rfl, rfl, rfl, rfl, rfl, rfl, rfl, by decide, rfl⟩
theorem tok77 : TOk Tryd.prog 77 ⟨1, false, 2, 24, 84, [], [.slice none 0 0]⟩ := ⟨_, _, _, rfl, rfl, rfl, rfl, rfl, rfl, rfl, rfl, rfl, rfl, rfl, by decide, rfl⟩
theorem tok79 : TOk Tryd.prog 79 ⟨1, false, 5, 8, 5, [], [.pointer none]⟩ := ⟨_, _, _, rfl, rfl, rfl, rfl, rfl, rfl, rfl, rfl, rfl, rfl, rfl, by decide, rfl⟩
theorem tok84 : TOk Tryd.prog 84 ⟨1, false, 7, 4, 6, [], [.int .u32 0]⟩ := ⟨_, _, _, rfl, rfl, rfl, rfl, rfl, rfl, rfl, rfl, rfl, rfl, rfl, by decide, rfl⟩
theorem tok87 : TOk Tryd.prog 87 ⟨1, false, 0, 8, 0, [], [.pointer none]⟩ := ⟨_, _, _, rfl, rfl, rfl, rfl, rfl, rfl, rfl, rfl, rfl, rfl, rfl, by decide, rfl⟩
theorem tok95 : TOk Tryd.prog 95 ⟨3, true, 9, 56, 0, [(0, 1, false), (1, 1, false), (2, 1, false)], [.bool false, .slice none 0 0, .slice none 0 0]⟩ := ⟨_, _, _, rfl, rfl, rfl, rfl, rfl, rfl, rfl, rfl, rfl, rfl, rfl, by decide, rfl⟩
theorem tok101 : TOk Tryd.prog 101 ⟨24, true, 10, 24, 5, [], [.int .u8 0, .int .u8 0, .int .u8 0, .int .u8 0, .int .u8 0, .int .u8 0, .int .u8 0, .int .u8 0, .int .u8 0, .int .u8 0, .int .u8 0, .int .u8 0, .int .u8 0, .int .u8 0, .int .u8 0, .int .u8 0, .int .u8 0, .int .u8 0, .int .u8 0, .int .u8 0, .int .u8 0, .int .u8 0, .int .u8 0, .int .u8 0]⟩ := ⟨_, _, _, rfl, rfl, rfl, rfl, rfl, rfl, rfl, rfl, rfl, rfl, rfl, by decide, rfl⟩
theorem tok106 : TOk Tryd.prog 106 ⟨1, false, 5, 8, 77, [], [.pointer none]⟩ := ⟨_, _, _, rfl, rfl, rfl, rfl, rfl, rfl, rfl, rfl, rfl, rfl, rfl, by decide, rfl⟩
theorem tok107 : TOk Tryd.prog 107 ⟨1, false, 7, 8, 7, [], [.int .u64 0]⟩ := ⟨_, _, _, rfl, rfl, rfl, rfl, rfl, rfl, rfl, rfl, rfl, rfl, rfl, by decide, rfl⟩
theorem tok122 : TOk Tryd.prog 122 ⟨20, true, 10, 160, 71, [], [.int .u64 0, .int .u64 0, .int .u64 0, .int .u64 0, .int .u64 0, .int .u64 0, .int .u64 0, .int .u64 0, .int .u64 0, .int .u64 0, .int .u64 0, .int .u64 0, .int .u64 0, .int .u64 0, .int .u64 0, .int .u64 0, .int .u64 0, .int .u64 0, .int .u64 0, .int .u64 0]⟩ := ⟨_, _, _, rfl, rfl, rfl, rfl, rfl, rfl, rfl, rfl, rfl, rfl, rfl, by decide, rfl⟩
theorem tbF_ok : ∀ t i, tbF t = some i → TOk Tryd.prog t i := by
  intro t i h
  unfold tbF at h
  split at h
  · cases h; exact tok2
  · cases h; exact tok3
  · cases h; exact tok4
  · cases h; exact tok5
  · cases h; exact tok9
  · cases h; exact tok22
  · cases h; exact tok24
  · cases h; exact tok27
  · cases h; exact tok29
  · cases h; exact tok35
  · cases h; exact tok37
  · cases h; exact tok39
  · cases h; exact tok42
  · cases h; exact tok44
  · cases h; exact tok45
  · cases h; exact tok53
  · cases h; exact tok56
  · cases h; exact tok58
  · cases h; exact tok62
  · cases h; exact tok64
  · cases h; exact tok69
  · cases h; exact tok71
  · cases h; exact tok77
  · cases h; exact tok79
  · cases h; exact tok84
  · cases h; exact tok87
  · cases h; exact tok95
  · cases h; exact tok101
  · cases h; exact tok106
  · cases h; exact tok107
  · cases h; exact tok122
  · cases h
def T : Tb Tryd.prog := ⟨tbF, tbF_ok⟩
end Go.Proofs.YthjjbfpcclojbaaDoor.Pv
end

section
/- Rationals and their lists as they are seen; steps in short. No condition. -/
set_option linter.unusedVariables false
set_option linter.unusedSimpArgs false
namespace Go.Proofs.YthjjbfpcclojbaaDoor.Pv
open Go.RowKit
instance rowAt0 {α : Type} (r : List α) (l : List (List α)) : RowAt (r :: l) 0 r := ⟨fun _ => rfl⟩
theorem ld1 {α : Type} {row : List α} {G : List α → Prop} (h : G row) : [row].length = 1 ∧ 0 < [row].length ∧ ∃ r, RowAt [row] 0 r ∧ G r := ⟨rfl, Nat.zero_lt_one, row, rowAt0 _ _, h⟩
theorem W_cut {P : Program} {x y : Code} {K : Exit → St → Prop} {s : St} (s' : St) (φ : Prop) (h1 : W P x (thn (fun t => φ ∧ St.le t s') K) s) (h2 : φ → W P y K s') : W P (.seq x y) K s :=
  W_seq (W_mono h1 fun e t h => by
    cases e with
    | normal => exact ⟨fun b a w hs => (h2 h.1).1 b a w (hs.le h.2)⟩
    | _ => exact h)
theorem hle_take : ∀ {H H' : List HB}, H.take H'.length = H' → HLe H H'
  | H, [], _ => by cases H <;> exact True.intro
  | [], _ :: _, h => by cases h
  | a :: r, b :: q, h => by
    simp only [List.length_cons, List.take_succ_cons, List.cons.injEq] at h
    exact ⟨h.1, hle_take h.2⟩
theorem tle_map {tm : List (Nat × X)} : ∀ {r : List (Nat × X)}, r.map (fun p => look tm p.1) = r.map (·.2) → TLe tm r
  | [], _ => trivial
  | (t, x) :: r, h => by
    simp only [List.map_cons, List.cons.injEq] at h
    exact ⟨h.1, tle_map h.2⟩
theorem St.le_mk {s s' : St} (h1 : s'.n = s.n) (h2 : s'.nx = s.nx) (h3 : s'.m = s.m) (h4 : Nat.ble s.m s'.H.length = true) (h5 : s.H.take s'.H.length = s'.H) (h6 : s'.tm.map (fun p => look s.tm p.1) = s'.tm.map (·.2))
    (h7 : (s'.tm.all (fun p => p.2.lt s'.H.length) && s'.H.all (HB.lt s'.H.length)) = true) : St.le s s' :=
  ⟨h1, h2, h3, Nat.le_of_ble_eq_true h4, hle_take h5, tle_map h6, h7⟩
theorem gPos {t want : Bool} {A B : Prop} (h : t = want) (ha : A) : (t = want → A) ∧ (t = !want → B) := ⟨fun _ => ha, fun h' => (by subst h; cases t <;> cases h')⟩
theorem gNeg {t want : Bool} {A B : Prop} (h : t = !want) (hb : B) : (t = want → A) ∧ (t = !want → B) := ⟨fun h' => (by subst h'; cases t <;> cases h), fun _ => hb⟩
abbrev RtD := Bool × List Nat × List Nat
def limR (l : List Nat) : D := .li none 1 (l.map fun (x : Nat) => [.v (.int .u32 (x : Int))])
def rowR (r : RtD) : List D := [.v (.bool r.1), limR r.2.1, limR r.2.2]
def ratsR (rs : List RtD) : D := .li none 3 (rs.map rowR)
structure Aff where
  rows : Int
  cols : Int
  W : List RtD
  B : List RtD
instance : Inhabited Aff := ⟨⟨0, 0, [], []⟩⟩
def rowA (m : Aff) : List D := [.v (.int .i64 m.rows), .v (.int .i64 m.cols), ratsR m.W, ratsR m.B]
def netD (ms : List Aff) : D := .li none 4 (ms.map rowA)
instance rowMap {α : Type} [Inhabited α] (l : List α) (f : α → List D) (i : Nat) : RowAt (l.map f) i (f (l.getD i default)) :=
  ⟨fun h => by
    have h : i < l.length := by simpa using h
    simp [List.getElem?_map, h]⟩
theorem take_snoc {α : Type} [Inhabited α] (l : List α) {k : Nat} (h : k < l.length) : l.take (k + 1) = l.take k ++ [l.getD k default] := by
  rw [List.take_add_one]
  simp [h]
def Lok (l : List Nat) : Prop := (∀ x ∈ l, x < 4294967296) ∧ l.length ≤ 1048576
def Rok (r : RtD) : Prop := Lok r.2.1 ∧ Lok r.2.2
def rokCon (rok : RtD → Bool) : Con := ⟨RtD, fun g => [(true, rowR g)], Rok, fun _ g => bl (rok g), true⟩
def allCon (rok : RtD → Bool) : Con := ⟨List RtD, fun g => [(false, [ratsR g])], fun g => g.length ≤ 1048576 ∧ ∀ r ∈ g, Rok r, fun _ g => bl (g.all rok), true⟩
def inCon : Con := ⟨Int × Int × Int, fun g => [(false, [.v (.int .i64 g.1)]), (false, [.v (.int .i64 g.2.1)]), (false, [.v (.int .i64 g.2.2)])], fun _ => True, fun _ g => bl (decide (g.2.1 ≤ g.1) && decide (g.1 ≤ g.2.2)), true⟩
end Go.Proofs.YthjjbfpcclojbaaDoor.Pv
end

section
/- Naturals as lists of limbs: trimming, plain lists, product, comparison, shifts, and the laws' helpers for lists. The conditions stand with each part. -/
set_option linter.unusedVariables false
set_option linter.unusedSimpArgs false
namespace Go.Proofs.YthjjbfpcclojbaaDoor.Hand
open Go.RowKit Go.Proofs.YthjjbfpcclojbaaDoorW.PrintWords Go.Proofs.YthjjbfpcclojbaaDoorW.PrintLast Go.Proofs.YthjjbfpcclojbaaDoorW.PrintMore
/-- Block g holds just the cells cs of type t. -/
def Blk (w : World) (g : Nat) (t : TypeId) (cs : Array Value) : Prop := w.heap[g]? = some (.cells cs t (0, 0))
section
variable {w w' : World} {g : Nat} {t : TypeId} {cs : Array Value}
theorem Blk.lt (h : Blk w g t cs) : g < w.heap.size := by
  rcases Nat.lt_or_ge g w.heap.size with hlt | hge
  · exact hlt
  · unfold Blk at h; rw [Array.getElem?_eq_none hge] at h; cases h
theorem Blk.cell (h : Blk w g t cs) (i : Nat) : w.cell? ⟨g, i, none⟩ = cs[i]? := cell_of_row w g i cs t (0, 0) h
theorem Blk.frozen (h : Blk w g t cs) (i : Nat) : w.frozen? ⟨g, i, none⟩ = false := by
  unfold Blk at h
  simp [World.frozen?, h]
theorem Blk.new (w : World) (t : TypeId) (cs : Array Value) : Blk (w.alloc (.cells cs t)) w.heap.size t cs := heap_alloc_new w _
theorem Blk.drew (h : Blk w g t cs) : Blk w.drew g t cs := h
theorem Blk.drewN (h : Blk w g t cs) (n : Nat) : Blk (w.drewN n) g t cs := h
theorem Blk.alloc (h : Blk w g t cs) (o : Obj) : Blk (w.alloc o) g t cs := (Below.heap_alloc w o g h.lt).trans h
theorem Blk.set_ (h : Blk w g t cs) (i : Nat) (u : Value) : Blk (w.setCell ⟨g, i, none⟩ u) g t (cs.setIfInBounds i u) := by
  unfold Blk at h ⊢
  simp [World.setCell, Array.getElem?_modify, h]
theorem Blk.far (h : Blk w g t cs) {p : Addr} (hp : g ≠ p.block) (u : Value) : Blk (w.setCell p u) g t cs := (Below.heap_setCell w p u g hp).trans h
theorem Blk.below {B : Nat} (h : Blk w g t cs) (hb : Below B w w') (hg : g < B) : Blk w' g t cs := (hb.block g hg).trans h
theorem Blk.grown {row : Option Nat} (h : Blk w g t cs) (hb : w.grownBy w' row) (hg : some g ≠ row) : Blk w' g t cs := (hb.block g h.lt hg).trans h
end
theorem grown_drewN {a w : World} {row : Option Nat} (h : a.grownBy w row) (n : Nat) : a.grownBy (w.drewN n) row := ⟨h.os, h.tape, h.output, h.size, h.block⟩
theorem grown_drew {a w : World} {row : Option Nat} (h : a.grownBy w row) : a.grownBy w.drew row := ⟨h.os, h.tape, h.output, h.size, h.block⟩
theorem grown_set {a w : World} {g : Nat} (h : a.grownBy w (some g)) {p : Addr} (hp : p.block = g ∨ a.heap.size ≤ p.block) (u : Value) : a.grownBy (w.setCell p u) (some g) :=
  ⟨h.os, h.tape, h.output, by simpa [World.setCell] using h.size, fun i hi hne => (Below.heap_setCell w p u i (by
    rintro rfl
    rcases hp with hp | hp
    · exact hne (by rw [hp])
    · omega)).trans (h.block i hi hne)⟩
/-- Cells that are read lie in no block of one cell that holds no whole number. -/
theorem reads_set {w : World} {k : IntKind} {A : Option Addr} {n : Nat} {xs : List Int} {g : Nat} {t : TypeId} {v : Value} (h : (Kd.int k).C w A n xs) (hb : Blk w g t #[v]) (hv : ∀ x, v ≠ .int k x) (u : Value) :
    (Kd.int k).C (w.setCell ⟨g, 0, none⟩ u) A n xs := by
  refine ⟨h.1, h.2.1, fun hn => ?_⟩
  obtain ⟨ad, e, hc⟩ := h.2.2 hn
  refine ⟨ad, e, fun j p hj => ?_⟩
  obtain ⟨c, hl, hK, hcell⟩ := hc j p hj
  refine ⟨c, hl, hK, fun i x hx => ?_⟩
  have h1 := hcell i x hx
  have hce : c = [.int k p] := hK
  have hxe : x = .int k p := by
    subst hce
    rcases i with _ | i
    · simpa using hx.symm
    · simp at hx
  by_cases he : ad.add (j * (Kd.int k).sz + i) = ⟨g, 0, none⟩
  · rw [he, hb.cell] at h1
    simp at h1
    exact absurd (h1.trans hxe) (hv p)
  · rw [World.cell?_setCell_other w _ _ _ (Ne.symm he)]; exact h1
/-- The number of limbs that stay when zeros at the end are dropped; only the first n are looked at. -/
def trimTo (l : List Int) : Nat → Nat
  | 0 => 0
  | n + 1 => if rd l (n : Int) = 0 then trimTo l n else n + 1
def trimN (l : List Int) : Nat := trimTo l l.length
theorem trimTo_le (l : List Int) : ∀ n, trimTo l n ≤ n
  | 0 => Nat.le_refl _
  | n + 1 => by
    unfold trimTo
    split
    · exact Nat.le_succ_of_le (trimTo_le l n)
    · exact Nat.le_refl _
theorem trimN_le (l : List Int) : trimN l ≤ l.length := trimTo_le l _
def trimL (l : List Int) : List Int := l.take (trimN l)
end Go.Proofs.YthjjbfpcclojbaaDoor.Hand
set_option linter.unusedVariables false
set_option linter.unusedSimpArgs false
namespace Go.Proofs.YthjjbfpcclojbaaDoor.Hand
open Go.RowKit Go.Proofs.YthjjbfpcclojbaaDoorW.PrintWords Go.Proofs.YthjjbfpcclojbaaDoorW.PrintLast Go.Proofs.YthjjbfpcclojbaaDoorW.PrintMore
theorem infoU : (Tryd.prog.info? 84).map (fun i => (i.zero, i.size, i.bytes)) = some (some (.int .u32 0), 1, 4) := by kernel_rfl
set_option maxHeartbeats 1000000 in
theorem trim_calls (g : Nat) (A : Option Addr) (c : Nat) (l : List Int) (w : World) (hb : Blk w g 77 #[.slice A l.length c]) (hr : (Kd.int .u32).C w A l.length l) (hc : l.length ≤ c) :
    Calls Tryd.prog 63 #[.pointer (some ⟨g, 0, none⟩)] w fun e w' => e = .returned (.slice A (trimN l) c) ∧ w.grownBy w' (some g) ∧ Blk w' g 77 #[.slice A (trimN l) c] := by
  have HC := Aside0.mk hc
  have hlen : l.length ≤ 9223372036854775807 := hr.2.1
  have HR := Aside0.mk hr
  have HBl := Aside0.mk hb
  clear hb hr hc
  go_enter Tryd.func63, Tryd.ntmps63
  go_wp2
  go_loopg [] l.length (fun k w' => Aside0 (k ≤ l.length ∧ trimTo l k = trimN l) ∧ Aside0 ((Kd.int .u32).C w' A l.length l) ∧ Aside0 (w.grownBy w' (some g)) ∧ Aside0 (Blk w' g 77 #[.slice A k c]))
  case atStart => exact ⟨⟨Nat.le_refl _, rfl⟩, HR, ⟨World.grownBy.refl _ _⟩, HBl⟩
  case round =>
    clear HR HBl
    obtain ⟨HK, HR, HG, HBl⟩ := hrel
    obtain ⟨hk, ht⟩ := HK.out
    clear HK
    have HT := Aside0.mk ht
    clear ht
    have hcell : wr.cell? ⟨g, 0, none⟩ = some (.slice A gk c) := HBl.out.cell 0
    have hfro := HBl.out.frozen 0
    cases gk with
    | zero =>
      go_wp2
      go_quiet (fail)
      go_wp2
      go_ret
      exact ⟨by rw [← HT.out]; rfl, grown_drewN HG.out _, by rw [← HT.out]; exact HBl.out.drewN _⟩
    | succ k1 =>
      obtain ⟨ad, e1, hx⟩ := Kd.at_int HR.out (k1 : Int) (by omega) (by omega)
      subst e1
      have hk0 : decide ((0 : Int) < ((k1 + 1 : Nat) : Int)) = true := decide_eq_true (by omega)
      have hj : ((k1 + 1 : Nat) : Int) - 1 = (k1 : Int) := by omega
      have hw : IntKind.i64.wrap (k1 : Int) = (k1 : Int) := IntWalk.i64_in _ ⟨by omega, by omega⟩
      have hq : (k1 : Int) < (k1 : Int) + 1 := by omega
      have hkc : k1 ≤ c := by have := HC.out; omega
      rw [Int.toNat_natCast] at hx
      by_cases hz : rd l (k1 : Int) = 0
      · rw [hz] at hx
        go_wp2
        go_quiet (fail)
        go_wp2
        go_region
        all_goals
          go_wp2
          go_roundg k1
          case measure => omega
          case rel =>
            have ht : trimTo l k1 = trimN l := by
              rw [← HT.out]
              unfold trimTo
              rw [if_pos hz]
              cases k1 <;> rfl
            exact ⟨⟨by omega, ht⟩, ⟨reads_set (Kd.C_below HR.out (Drawn0.mk ⟨_, rfl⟩).below) (HBl.out.drewN _) (fun _ h => by cases h) _⟩, ⟨grown_set (grown_drewN HG.out _) (.inl rfl) _⟩, ⟨(HBl.out.drewN _).set_ 0 _⟩⟩
      · have hz1 : (rd l (k1 : Int) == 0) = false := by simpa using hz
        go_wp2
        go_quiet (fail)
        go_wp2
        go_ret
        have ht : k1 + 1 = trimN l := by
          rw [← HT.out]
          unfold trimTo
          rw [if_neg hz]
        exact ⟨by rw [← ht]; rfl, grown_drewN HG.out _, by rw [← ht]; exact HBl.out.drewN _⟩
end Go.Proofs.YthjjbfpcclojbaaDoor.Hand
set_option linter.unusedVariables false
set_option linter.unusedSimpArgs false
namespace Go.Proofs.YthjjbfpcclojbaaDoor.Hand
open Go.RowKit Go.Proofs.YthjjbfpcclojbaaDoorW.PrintWords Go.Proofs.YthjjbfpcclojbaaDoorW.PrintLast Go.Proofs.YthjjbfpcclojbaaDoorW.PrintMore
/-- The plain list of a number below 2^64. -/
def small64 (x : Int) : List Int := trimL [x % 4294967296, x / 4294967296]
theorem trim_two (a b : Int) (w : World) :
    Calls Tryd.prog 63 #[.pointer (some ⟨w.heap.size + 1, 0, none⟩)] ((w.alloc (.cells #[.int .u32 a, .int .u32 b] 84)).alloc (.cells #[.slice (some ⟨w.heap.size, 0, none⟩) 2 2] 77))
      fun e w' => ∃ v, e = .returned v ∧ (Kd.int .u32).R 84 w' w.heap.size (fun _ => True) v (trimL [a, b]) ∧ Below w.heap.size w w' := by
  have HO := show (Kd.int .u32).R 84 (w.alloc (.cells #[.int .u32 a, .int .u32 b] 84)) w.heap.size (fun k => k = w.heap.size) (.slice (some ⟨w.heap.size, 0, none⟩) 2 2) [a, b] from
    Kd.R_of_own (own_lit w w.heap.size 84 .u32 [a, b] (Nat.le_refl _) (by simp)) (fun k hk => by simpa [Value.ownBlock] using hk.symm)
  have hs : (w.alloc (.cells #[.int .u32 a, .int .u32 b] 84)).heap.size = w.heap.size + 1 := by simp
  have hbx := Blk.new (w.alloc (.cells #[.int .u32 a, .int .u32 b] 84)) 77 #[.slice (some ⟨w.heap.size, 0, none⟩) 2 2]
  rw [hs] at hbx
  refine (trim_calls (w.heap.size + 1) (some ⟨w.heap.size, 0, none⟩) 2 [a, b] _ hbx (Kd.C_below (Kd.R_reads' HO).2.2 (below_alloc (Below.refl _ _) _)) (Nat.le_refl _)).mono ?_
  rintro e w' ⟨rfl, hg, hb⟩
  refine ⟨_, rfl, Kd.R_mono (Kd.R_take (m := trimN [a, b]) (Kd.R_grown (Kd.R_alloc HO _) hg (by rintro k rfl h; injection h with h; omega)) (trimN_le _)) (fun _ _ => trivial), ?_⟩
  exact pw_below_grown (below_alloc (below_alloc (Below.refl w.heap.size w) _) _) _ (by simp; omega) hg (by intro k hk; injection hk with hk; omega)
set_option maxHeartbeats 1000000 in
theorem small_calls (x : Int) (h0 : 0 ≤ x) (h1 : x < 18446744073709551616) (w : World) :
    Calls Tryd.prog 74 #[.int .u64 x] w fun e w' => ∃ v, e = .returned v ∧ (Kd.int .u32).R 84 w' w.heap.size (fun _ => True) v (small64 x) ∧ Below w.heap.size w w' := by
  go_enter Tryd.func74, Tryd.ntmps74
  go_wp2_with fail
  refine (trim_two _ _ w).mono ?_
  rintro e w' ⟨v, rfl, ho, hb⟩
  have HO := Aside0.mk ho
  have HB := Aside0.mk hb
  clear ho hb
  go_wp2
  go_ret
  exact ⟨_, rfl, HO.out, HB.out⟩
end Go.Proofs.YthjjbfpcclojbaaDoor.Hand
set_option linter.unusedVariables false
set_option linter.unusedSimpArgs false
namespace Go.Proofs.YthjjbfpcclojbaaDoor.Hand
open Go.RowKit Go.Proofs.YthjjbfpcclojbaaDoorW.PrintWords
/-- What a list of limbs stands for. -/
def val : List Int → Nat
  | [] => 0
  | x :: xs => x.toNat + 4294967296 * val xs
/-- Each element is a limb. -/
def Limbs (l : List Int) : Prop := ∀ x ∈ l, 0 ≤ x ∧ x < 4294967296
/-- The plain list of a natural. -/
def lim (n : Nat) : List Int := if h : n = 0 then [] else ((n % 4294967296 : Nat) : Int) :: lim (n / 4294967296)
termination_by n
decreasing_by omega
/-- No zero limb at the end. -/
def Plain (l : List Int) : Prop := ∀ h : l ≠ [], l.getLast h ≠ 0
theorem lim_zero : lim 0 = [] := by rw [lim]; simp
theorem lim_pos {n : Nat} (h : n ≠ 0) : lim n = ((n % 4294967296 : Nat) : Int) :: lim (n / 4294967296) := by rw [lim]; simp [h]
theorem lim_nil_iff {n : Nat} : lim n = [] ↔ n = 0 := by
  constructor
  · intro h
    rcases Nat.eq_zero_or_pos n with h0 | h0
    · exact h0
    · rw [lim_pos (by omega)] at h; simp at h
  · rintro rfl; exact lim_zero
theorem val_lim (n : Nat) : val (lim n) = n := by
  induction n using Nat.strongRecOn with
  | _ n ih =>
    rcases Nat.eq_zero_or_pos n with h | h
    · subst h; rw [lim_zero]; rfl
    · rw [lim_pos (by omega), val, ih _ (by omega)]; omega
theorem limbs_lim (n : Nat) : Limbs (lim n) := by
  induction n using Nat.strongRecOn with
  | _ n ih =>
    rcases Nat.eq_zero_or_pos n with h | h
    · subst h; rw [lim_zero]; intro x hx; simp at hx
    · rw [lim_pos (by omega)]
      intro x hx
      rcases List.mem_cons.1 hx with rfl | hx
      · omega
      · exact ih _ (by omega) x hx
theorem Limbs.nil : Limbs [] := fun x hx => by simp at hx
theorem Limbs.tail {x : Int} {xs : List Int} (h : Limbs (x :: xs)) : Limbs xs := fun y hy => h y (List.mem_cons_of_mem _ hy)
theorem Limbs.head {x : Int} {xs : List Int} (h : Limbs (x :: xs)) : 0 ≤ x ∧ x < 4294967296 := h x List.mem_cons_self
theorem Limbs.cons {x : Int} {xs : List Int} (hx : 0 ≤ x ∧ x < 4294967296) (h : Limbs xs) : Limbs (x :: xs) := fun y hy => by
  rcases List.mem_cons.1 hy with rfl | hy
  · exact hx
  · exact h y hy
theorem Limbs.append {a b : List Int} (ha : Limbs a) (hb : Limbs b) : Limbs (a ++ b) := fun y hy => by
  rcases List.mem_append.1 hy with hy | hy
  · exact ha y hy
  · exact hb y hy
theorem Limbs.take {a : List Int} (ha : Limbs a) (n : Nat) : Limbs (a.take n) := fun y hy => ha y (List.mem_of_mem_take hy)
theorem Limbs.drop {a : List Int} (ha : Limbs a) (n : Nat) : Limbs (a.drop n) := fun y hy => ha y (List.mem_of_mem_drop hy)
theorem Limbs.set {a : List Int} (ha : Limbs a) (i : Nat) {x : Int} (hx : 0 ≤ x ∧ x < 4294967296) : Limbs (a.set i x) := fun y hy => by
  rcases List.mem_or_eq_of_mem_set hy with hy | rfl
  · exact ha y hy
  · exact hx
theorem limbs_rd {a : List Int} (ha : Limbs a) (i : Int) : 0 ≤ rd a i ∧ rd a i < 4294967296 := by
  unfold rd
  rw [List.getD_eq_getElem?_getD]
  rcases Nat.lt_or_ge i.toNat a.length with h | h
  · rw [List.getElem?_eq_getElem h]
    exact ha _ (List.getElem_mem h)
  · rw [List.getElem?_eq_none h]; simp
theorem Limbs.replicate (n : Nat) : Limbs (List.replicate n 0) := fun y hy => by
  have := List.eq_of_mem_replicate hy; omega
theorem val_replicate (n : Nat) : val (List.replicate n 0) = 0 := by
  induction n with
  | zero => rfl
  | succ n ih => rw [List.replicate_succ, val, ih]; rfl
theorem val_append (a b : List Int) : val (a ++ b) = val a + 4294967296 ^ a.length * val b := by
  induction a with
  | nil => simp [val]
  | cons x xs ih =>
    simp only [List.cons_append, val, List.length_cons, Nat.pow_succ, ih]
    rw [Nat.mul_add, Nat.mul_comm (4294967296 ^ xs.length) 4294967296, Nat.mul_assoc, Nat.add_assoc]
theorem val_lt {a : List Int} (h : Limbs a) : val a < 4294967296 ^ a.length := by
  induction a with
  | nil => simp [val]
  | cons x xs ih =>
    have h1 := ih h.tail
    have h2 := h.head
    rw [val, List.length_cons, Nat.pow_succ]
    have : val xs + 1 ≤ 4294967296 ^ xs.length := h1
    have h3 : (val xs + 1) * 4294967296 ≤ 4294967296 ^ xs.length * 4294967296 := Nat.mul_le_mul_right _ this
    omega
theorem rd_lt {a : List Int} {i : Nat} (h : i < a.length) : rd a (i : Int) = a[i] := by
  unfold rd
  rw [Int.toNat_natCast, List.getD_eq_getElem?_getD, List.getElem?_eq_getElem h]; rfl
theorem val_take_succ (a : List Int) (i : Nat) (h : i < a.length) : val (a.take (i + 1)) = val (a.take i) + (rd a (i : Int)).toNat * 4294967296 ^ i := by
  rw [List.take_succ_eq_append_getElem h, val_append, List.length_take, Nat.min_eq_left (Nat.le_of_lt h), rd_lt h]
  simp [val, Nat.mul_comm]
theorem val_drop (a : List Int) (i : Nat) (h : i < a.length) : val (a.drop i) = (rd a (i : Int)).toNat + 4294967296 * val (a.drop (i + 1)) := by
  rw [List.drop_eq_getElem_cons h, val, rd_lt h]
theorem val_split (a : List Int) (i : Nat) (h : i ≤ a.length) : val a = val (a.take i) + 4294967296 ^ i * val (a.drop i) := by
  have := val_append (a.take i) (a.drop i)
  rw [List.take_append_drop, List.length_take, Nat.min_eq_left h] at this
  exact this
theorem val_set (a : List Int) (i : Nat) (y : Int) (h : i < a.length) : val (a.set i y) + (rd a (i : Int)).toNat * 4294967296 ^ i = val a + y.toNat * 4294967296 ^ i := by
  induction a generalizing i with
  | nil => simp at h
  | cons x xs ih =>
    cases i with
    | zero => simp [val, rd]; omega
    | succ i =>
      have h' : i < xs.length := by simpa using h
      have := ih i h'
      rw [rd_lt h'] at this
      rw [rd_lt h]
      simp only [List.set_cons_succ, val, List.getElem_cons_succ, Nat.pow_succ]
      rw [← Nat.mul_assoc, ← Nat.mul_assoc]
      omega
theorem trimTo_val (l : List Int) : ∀ n, n ≤ l.length → val (l.take (trimTo l n)) = val (l.take n)
  | 0, _ => rfl
  | n + 1, h => by
    unfold trimTo
    split
    · rename_i hz
      rw [trimTo_val l n (by omega), val_take_succ l n (by omega), hz]
      simp
    · rfl
theorem val_trimL (l : List Int) : val (trimL l) = val l := by
  unfold trimL trimN
  rw [trimTo_val l _ (Nat.le_refl _), List.take_length]
theorem limbs_trimL {l : List Int} (h : Limbs l) : Limbs (trimL l) := h.take _
theorem trimTo_last (l : List Int) : ∀ n, n ≤ l.length → trimTo l n = 0 ∨ ∃ m, trimTo l n = m + 1 ∧ m < l.length ∧ rd l (m : Int) ≠ 0
  | 0, _ => .inl rfl
  | n + 1, h => by
    unfold trimTo
    split
    · exact trimTo_last l n (by omega)
    · rename_i hz
      exact .inr ⟨n, rfl, by omega, hz⟩
theorem plain_trimL (l : List Int) : Plain (trimL l) := by
  intro hne
  rcases trimTo_last l l.length (Nat.le_refl _) with h | ⟨m, h, hm, hz⟩
  · exfalso
    apply hne
    unfold trimL trimN
    rw [h]; rfl
  · have ht : trimL l = l.take m ++ [l[m]] := by
      unfold trimL trimN
      rw [h, List.take_succ_eq_append_getElem hm]
    have he := rd_lt hm
    simp only [ht, List.getLast_append, List.getLast_singleton]
    simp only [← he]
    simpa using hz
theorem Plain.tail {x : Int} {xs : List Int} (h : Plain (x :: xs)) : Plain xs := fun hne => by
  have := h (by simp)
  rwa [List.getLast_cons hne] at this
theorem val_pos_of_plain {l : List Int} (hl : Limbs l) (hp : Plain l) (hne : l ≠ []) : 0 < val l := by
  induction l with
  | nil => exact absurd rfl hne
  | cons x xs ih =>
    rw [val]
    rcases xs with _ | ⟨y, ys⟩
    · have h1 := hp (by simp)
      simp at h1
      have := hl.head
      omega
    · have := ih hl.tail hp.tail (by simp)
      omega
theorem lim_val {l : List Int} (hl : Limbs l) (hp : Plain l) : lim (val l) = l := by
  induction l with
  | nil => exact lim_zero
  | cons x xs ih =>
    have hpos := val_pos_of_plain hl hp (by simp)
    have h2 := hl.head
    rw [lim_pos (by omega), val]
    have e1 : (x.toNat + 4294967296 * val xs) % 4294967296 = x.toNat := by omega
    have e2 : (x.toNat + 4294967296 * val xs) / 4294967296 = val xs := by omega
    rw [e1, e2, ih hl.tail hp.tail]
    congr 1
    omega
theorem trimL_eq {l : List Int} (h : Limbs l) : trimL l = lim (val l) := by
  rw [← val_trimL l, lim_val (limbs_trimL h) (plain_trimL l)]
theorem plain_lim (n : Nat) : Plain (lim n) := by
  induction n using Nat.strongRecOn with
  | _ n ih =>
    rcases Nat.eq_zero_or_pos n with h | h
    · subst h; rw [lim_zero]; intro hne; exact absurd rfl hne
    · rw [lim_pos (by omega)]
      intro hne
      by_cases hd : n / 4294967296 = 0
      · simp only [hd, lim_zero, List.getLast_singleton]
        omega
      · have hn : lim (n / 4294967296) ≠ [] := fun h => hd (lim_nil_iff.1 h)
        rw [List.getLast_cons hn]
        exact ih _ (by omega) hn
theorem lim_length_le {n k : Nat} (h : n < 4294967296 ^ k) : (lim n).length ≤ k := by
  induction k generalizing n with
  | zero =>
    have : n = 0 := by simpa using h
    subst this; rw [lim_zero]; simp
  | succ k ih =>
    rcases Nat.eq_zero_or_pos n with h0 | h0
    · subst h0; rw [lim_zero]; simp
    · rw [lim_pos (by omega), List.length_cons]
      have := ih (n := n / 4294967296) (by
        rw [Nat.div_lt_iff_lt_mul (by omega)]
        rwa [Nat.pow_succ] at h)
      omega
theorem val_one (x : Int) : val [x] = x.toNat := by simp [val]
end Go.Proofs.YthjjbfpcclojbaaDoor.Hand
set_option linter.unusedVariables false
set_option linter.unusedSimpArgs false
namespace Go.Proofs.YthjjbfpcclojbaaDoor.Hand
open Go.RowKit Go.Proofs.YthjjbfpcclojbaaDoorW.PrintWords
theorem limb_prod {x y : Int} (hx : 0 ≤ x ∧ x < 4294967296) (hy : 0 ≤ y ∧ y < 4294967296) : 0 ≤ x * y ∧ x * y ≤ 18446744065119617025 := by
  refine ⟨Int.mul_nonneg hx.1 hy.1, ?_⟩
  have h1 : x * y ≤ 4294967295 * y := Int.mul_le_mul_of_nonneg_right (by omega) hy.1
  omega
theorem rd_set_ne {o : List Int} {i k : Nat} (v : Int) (h : i ≠ k) : rd (o.set i v) (k : Int) = rd o (k : Int) := by
  unfold rd
  rw [Int.toNat_natCast, List.getD_eq_getElem?_getD, List.getD_eq_getElem?_getD, List.getElem?_set_ne h]
theorem rd_set_eq {o : List Int} {i : Nat} (v : Int) (h : i < o.length) : rd (o.set i v) (i : Int) = v := by
  unfold rd
  rw [Int.toNat_natCast, List.getD_eq_getElem?_getD, List.getElem?_set_self h]; rfl
theorem or_join (a b : Int) (ha : 0 ≤ a ∧ a < 4294967296) (hb : 0 ≤ b ∧ b < 4294967296) : Go.bits .or .u64 (b * 4294967296) a = a + 4294967296 * b := by
  rw [u64_or _ _ (by omega) (by omega) (by omega) (by omega), nat_join 32 _ _ (by omega) (by omega)]
  omega
theorem small64_eq {x : Int} (h0 : 0 ≤ x) (h1 : x < 18446744073709551616) : small64 x = lim x.toNat := by
  have hl : Limbs [x % 4294967296, x / 4294967296] := Limbs.cons (by omega) (Limbs.cons (by omega) Limbs.nil)
  unfold small64
  rw [trimL_eq hl]
  congr 1
  simp [val]
  omega
end Go.Proofs.YthjjbfpcclojbaaDoor.Hand
set_option linter.unusedVariables false
set_option linter.unusedSimpArgs false
namespace Go.Proofs.YthjjbfpcclojbaaDoor.Hand
open Go.RowKit Go.Proofs.YthjjbfpcclojbaaDoorW.PrintWords Go.Proofs.YthjjbfpcclojbaaDoorW.PrintLast Go.Proofs.YthjjbfpcclojbaaDoorW.PrintMore
/-- The method small on a list of at most two limbs, or more: its value as one number, and whether it fits. -/
def smallV (l : List Int) : Int := if l.length ≤ 2 then (val l : Int) else 0
theorem small_at (A : Option Addr) (c : Nat) (l : List Int) (w : World) (hr : (Kd.int .u32).C w A l.length l) (hl : Limbs l) :
    Calls Tryd.prog 73 #[.slice A l.length c] w fun e w' => e = .returned (.tuple #[.int .u64 (smallV l), .bool (decide (l.length ≤ 2))]) ∧ Drawn0 w w' := by
  rcases l with _ | ⟨a, _ | ⟨b, _ | ⟨d, l⟩⟩⟩
  · go_enter Tryd.func73, Tryd.ntmps73
    go_wp2
    go_ret2
    exact ⟨by simp [smallV, val], Drawn0.refl _⟩
  · obtain ⟨ad, rfl, hx⟩ := Kd.at_int hr 0 (by omega) (by simp)
    have ha := hl.head
    have hrd : rd [a] 0 = a := rfl
    rw [hrd, show ((0 : Int)).toNat = 0 from rfl, Addr.add_zero'] at hx
    clear hr hrd
    go_enter Tryd.func73, Tryd.ntmps73
    go_wp2
    go_ret2
    exact ⟨by simp [smallV, val]; omega, Drawn0.refl _⟩
  · obtain ⟨ad, rfl, hx⟩ := Kd.at_int hr 0 (by omega) (by simp)
    obtain ⟨ad', h', hy⟩ := Kd.at_int hr 1 (by omega) (by simp)
    cases h'
    have ha := hl.head
    have hb := hl.tail.head
    have hrd : rd [a, b] 0 = a := rfl
    have hrd1 : rd [a, b] 1 = b := rfl
    rw [hrd, show ((0 : Int)).toNat = 0 from rfl, Addr.add_zero'] at hx
    rw [hrd1] at hy
    simp only [show (1 : Int).toNat = 1 from rfl, Nat.reduceEqDiff, Go.Addr.add, ↓reduceIte] at hy
    clear hr hrd hrd1
    go_enter Tryd.func73, Tryd.ntmps73
    go_wp2
    go_quiet (fail)
    go_wp2
    go_ret2
    have hj := or_join a b ha hb
    have hv : smallV [a, b] = a + 4294967296 * b := by simp [smallV, val]; omega
    rw [← hj] at hv
    exact ⟨by rw [hv]; rfl, (Drawn0.refl _).step _⟩
  · have h3 : ((l.length + 1 + 1 + 1 : Nat) : Int) = l.length + 3 := by omega
    have e0 : (((l.length : Int) + 3) == 0) = false := by rw [beq_eq_false_iff_ne]; omega
    have e1 : (((l.length : Int) + 3) == 1) = false := by rw [beq_eq_false_iff_ne]; omega
    have e2 : (((l.length : Int) + 3) == 2) = false := by rw [beq_eq_false_iff_ne]; omega
    clear hr
    go_enter Tryd.func73, Tryd.ntmps73
    go_wp2
    go_ret2
    exact ⟨by simp [smallV], Drawn0.refl _⟩
end Go.Proofs.YthjjbfpcclojbaaDoor.Hand
set_option linter.unusedVariables false
set_option linter.unusedSimpArgs false
namespace Go.Proofs.YthjjbfpcclojbaaDoor.Hand
open Go.RowKit Go.Proofs.YthjjbfpcclojbaaDoorW.PrintWords Go.Proofs.YthjjbfpcclojbaaDoorW.PrintLast Go.Proofs.YthjjbfpcclojbaaDoorW.PrintMore
/-- Limbs as a test. -/
def limbsB (l : List Int) : Bool := l.all fun x => decide (0 ≤ x ∧ x < 4294967296)
theorem limbsB_iff {l : List Int} : limbsB l = true ↔ Limbs l := by
  unfold limbsB Limbs
  rw [List.all_eq_true]
  exact ⟨fun h x hx => of_decide_eq_true (h x hx), fun h x hx => decide_eq_true (h x hx)⟩
/-- A list that a function of naturals takes. -/
def natB (l : List Int) : Bool := limbsB l && decide (l.length ≤ 1099511627776)
end Go.Proofs.YthjjbfpcclojbaaDoor.Hand
namespace Go.Proofs.YthjjbfpcclojbaaDoor.Ext
open Go.RowKit Go.Proofs.YthjjbfpcclojbaaDoorW.PrintWords Go.Proofs.YthjjbfpcclojbaaDoorW.PrintLast Go.Proofs.YthjjbfpcclojbaaDoorW.PrintMore Go.Proofs.YthjjbfpcclojbaaDoor.Hand
def impl_NatMul.f (l0 l1 : List Int) : Option (List Int) := if natB l0 && natB l1 then some (lim (val l0 * val l1)) else none
end Go.Proofs.YthjjbfpcclojbaaDoor.Ext
set_option linter.unusedVariables false
set_option linter.unusedSimpArgs false
namespace Go.Proofs.YthjjbfpcclojbaaDoor.Hand
open Go.RowKit Go.Proofs.YthjjbfpcclojbaaDoorW.PrintWords Go.Proofs.YthjjbfpcclojbaaDoorW.PrintLast Go.Proofs.YthjjbfpcclojbaaDoorW.PrintMore
theorem quiet_add_same {P : Program} {f : FuncId} {args : Array Value} {w : World} {a n : Nat} {v : Value}
    (h : Calls P f args (w.drewN (a + n)) fun e w' => e = .returned v ∧ w' = w.drewN (a + n)) :
    Calls P f args (w.drewN (a + n)) fun e w'' => e = .returned v ∧ ∃ m, w'' = w.drewN (a + m) :=
  h.mono fun _ _ ⟨he, hm⟩ => ⟨he, n, hm⟩
/-- -1, 0 or 1 as a is below, at or above b. -/
def cmpI (a b : Int) : Int := if a < b then -1 else if a = b then 0 else 1
def cmpN (a b : Nat) : Int := if a < b then -1 else if a = b then 0 else 1
theorem cmpI_lt {a b : Int} (h : a < b) : cmpI a b = -1 := by unfold cmpI; rw [if_pos h]
theorem cmpI_gt {a b : Int} (h : b < a) : cmpI a b = 1 := by unfold cmpI; rw [if_neg (by omega), if_neg (by omega)]
theorem cmpN_lt {a b : Nat} (h : a < b) : cmpN a b = -1 := by unfold cmpN; rw [if_pos h]
theorem cmpN_gt {a b : Nat} (h : b < a) : cmpN a b = 1 := by unfold cmpN; rw [if_neg (by omega), if_neg (by omega)]
theorem cmpN_eq {a b : Nat} (h : a = b) : cmpN a b = 0 := by unfold cmpN; rw [if_neg (by omega), if_pos h]
theorem pow_le_val {l : List Int} (hl : Limbs l) (hp : Plain l) (hne : l ≠ []) : 4294967296 ^ (l.length - 1) ≤ val l := by
  induction l with
  | nil => exact absurd rfl hne
  | cons x xs ih =>
    rcases xs with _ | ⟨y, ys⟩
    · have := val_pos_of_plain hl hp hne
      have : 1 ≤ val [x] := this
      simpa using this
    · have := ih hl.tail hp.tail (by simp)
      rw [val, List.length_cons, List.length_cons]
      rw [List.length_cons] at this
      have e : ys.length + 1 + 1 - 1 = (ys.length + 1 - 1) + 1 := by omega
      rw [e, Nat.pow_succ]
      omega
theorem val_lt_of_length {l l' : List Int} (hl : Limbs l) (hl' : Limbs l') (hp' : Plain l') (h : l.length < l'.length) : val l < val l' := by
  have h1 := val_lt hl
  have h2 := pow_le_val hl' hp' (by intro e; subst e; simp at h)
  have h3 : 4294967296 ^ l.length ≤ 4294967296 ^ (l'.length - 1) := Nat.pow_le_pow_right (by omega) (by omega)
  omega
theorem val_lt_of_top {l l' : List Int} {i : Nat} (hl : Limbs l) (hl' : Limbs l') (hi : i < l.length) (he : l.length = l'.length) (hd : l.drop (i + 1) = l'.drop (i + 1)) (h : rd l (i : Int) < rd l' (i : Int)) : val l < val l' := by
  have a1 := val_split l (i + 1) hi
  have a2 := val_split l' (i + 1) (by omega)
  have b1 := val_take_succ l i hi
  have b2 := val_take_succ l' i (by omega)
  have c1 := val_lt (hl.take i)
  have r1 := limbs_rd hl (i : Int)
  have r2 := limbs_rd hl' (i : Int)
  rw [List.length_take, Nat.min_eq_left (by omega)] at c1
  rw [hd] at a1
  have d1 : ((rd l (i : Int)).toNat + 1) * 4294967296 ^ i ≤ (rd l' (i : Int)).toNat * 4294967296 ^ i := Nat.mul_le_mul_right _ (by omega)
  rw [Nat.add_mul] at d1
  omega
theorem cmpInt_calls (a b : Int) (w : World) :
    Calls Tryd.prog 88 #[.int .i64 a, .int .i64 b] w fun e w' => e = .returned (.int .i64 (cmpI a b)) ∧ w = w' := by
  have hn : ∀ (x : Int) (W : World), Calls Tryd.prog 91 #[.int .i64 x] W fun e w' => e = .returned (.bool false) ∧ W = w' := by
    intro x W
    go_enter Tryd.func91, Tryd.ntmps91
    go_wp2
    go_ret
    exact ⟨rfl, rfl⟩
  have H := Lib.hid hn
  clear hn
  go_enter Tryd.func88, Tryd.ntmps88
  go_wp2_with fail
  refine (H.out _ _).mono ?_
  rintro e w1 ⟨rfl, rfl⟩
  go_wp2_with fail
  refine (H.out _ _).mono ?_
  rintro e w1 ⟨rfl, rfl⟩
  by_cases h1 : a < b
  · go_wp2
    go_ret
    exact ⟨by rw [cmpI_lt h1]; rfl, rfl⟩
  · by_cases h2 : b < a
    · go_wp2
      go_ret
      exact ⟨by rw [cmpI_gt h2]; rfl, rfl⟩
    · go_wp2
      go_ret
      have : cmpI a b = 0 := by unfold cmpI; rw [if_neg (by omega), if_pos (by omega)]
      exact ⟨by rw [this]; rfl, rfl⟩
theorem cmpU32_calls (a b : Int) (w : World) :
    Calls Tryd.prog 89 #[.int .u32 a, .int .u32 b] w fun e w' => e = .returned (.int .i64 (cmpI a b)) ∧ w = w' := by
  have hn : ∀ (x : Int) (W : World), Calls Tryd.prog 92 #[.int .u32 x] W fun e w' => e = .returned (.bool false) ∧ W = w' := by
    intro x W
    go_enter Tryd.func92, Tryd.ntmps92
    go_wp2
    go_ret
    exact ⟨rfl, rfl⟩
  have H := Lib.hid hn
  clear hn
  go_enter Tryd.func89, Tryd.ntmps89
  go_wp2_with fail
  refine (H.out _ _).mono ?_
  rintro e w1 ⟨rfl, rfl⟩
  go_wp2_with fail
  refine (H.out _ _).mono ?_
  rintro e w1 ⟨rfl, rfl⟩
  by_cases h1 : a < b
  · go_wp2
    go_ret
    exact ⟨by rw [cmpI_lt h1]; rfl, rfl⟩
  · by_cases h2 : b < a
    · go_wp2
      go_ret
      exact ⟨by rw [cmpI_gt h2]; rfl, rfl⟩
    · go_wp2
      go_ret
      have : cmpI a b = 0 := by unfold cmpI; rw [if_neg (by omega), if_pos (by omega)]
      exact ⟨by rw [this]; rfl, rfl⟩
set_option maxHeartbeats 2000000 in
theorem cmp_calls (A A' : Option Addr) (c c' : Nat) (l l' : List Int) (w : World) (hr : (Kd.int .u32).C w A l.length l) (hr' : (Kd.int .u32).C w A' l'.length l') (hl : Limbs l) (hl' : Limbs l') (hp : Plain l) (hp' : Plain l') :
    Calls Tryd.prog 83 #[.slice A l.length c, .slice A' l'.length c'] w fun e w' => e = .returned (.int .i64 (cmpN (val l) (val l'))) ∧ Drawn0 w w' := by
  have HR := Aside0.mk hr
  have HR' := Aside0.mk hr'
  have HL := Aside0.mk hl
  have HL' := Aside0.mk hl'
  have hlen : l.length ≤ 9223372036854775807 := hr.2.1
  clear hr hr' hl hl'
  by_cases hne : l.length = l'.length
  · have HE := Aside0.mk hne
    have hb1 : (l.length != l'.length) = false := by simp [hne]
    have hb2 : ((l.length : Int) != (l'.length : Int)) = false := by simp [hne]
    clear hne hp hp'
    go_enter Tryd.func83, Tryd.ntmps83
    go_wp2
    go_loopg [5] l.length (fun k v5 w' => v5 = .int .i64 ((k : Int) - 1) ∧ Aside0 (k ≤ l.length) ∧ Aside0 (l.drop k = l'.drop k) ∧ Aside0 (Drawn0 w w'))
    case atStart => exact ⟨rfl, ⟨Nat.le_refl _⟩, ⟨by rw [List.drop_length, HE.out, List.drop_length]⟩, ⟨Drawn0.refl _⟩⟩
    case round =>
      obtain ⟨rfl, HK, HD, HW⟩ := hrel
      cases gk with
      | zero =>
        go_wp2
        go_ret
        have hd := HD.out
        rw [List.drop_zero, List.drop_zero] at hd
        exact ⟨by rw [cmpN_eq (by rw [hd])]; rfl, HW.out⟩
      | succ k1 =>
        have hk := HK.out
        rw [show ((k1 + 1 : Nat) : Int) - 1 = (k1 : Int) from by omega]
        obtain ⟨ad, e1, hx⟩ := Kd.at_int HR.out (k1 : Int) (by omega) (by omega)
        subst e1
        obtain ⟨ad', e2, hy⟩ := Kd.at_int HR'.out (k1 : Int) (by omega) (by have := HE.out; omega)
        subst e2
        rw [Int.toNat_natCast] at hx hy
        replace hx := (HW.out.below.cell (World.block_lt_of_cell? w _ hx)).trans hx
        replace hy := (HW.out.below.cell (World.block_lt_of_cell? w _ hy)).trans hy
        have q1 : (k1 : Int) < (l.length : Int) := by omega
        have q2 : (k1 : Int) < (l'.length : Int) := by have := HE.out; omega
        by_cases hxy : rd l (k1 : Int) = rd l' (k1 : Int)
        · have hb3 : (rd l (k1 : Int) != rd l' (k1 : Int)) = false := by rw [bne_eq_false_iff_eq]; exact hxy
          have HXY := Aside0.mk hxy
          clear hxy
          go_wp2
          go_quiet (fail)
          go_wp2
          go_roundg k1
          case measure => omega
          case rel =>
            refine ⟨by go_num, ⟨by omega⟩, ⟨?_⟩, ⟨HW.out.step _⟩⟩
            have h1 : k1 < l.length := by omega
            have h2 : k1 < l'.length := by have := HE.out; omega
            rw [List.drop_eq_getElem_cons h1, List.drop_eq_getElem_cons h2, HD.out, ← rd_lt h1, ← rd_lt h2, HXY.out]
        · have hb3 : (rd l (k1 : Int) != rd l' (k1 : Int)) = true := by rw [bne_iff_ne]; exact hxy
          have HXY := Aside0.mk hxy
          clear hxy
          go_wp2
          go_quiet (fail)
          go_wp2
          go_quiet ((go_at_call 89; exact quiet_add_same ((cmpU32_calls _ _ _).mono fun _ _ h => ⟨h.1, h.2.symm⟩)))
          go_wp2
          go_ret
          have he : cmpI (rd l (k1 : Int)) (rd l' (k1 : Int)) = cmpN (val l) (val l') := by
            rcases Int.lt_or_gt_of_ne HXY.out with h | h
            · rw [cmpI_lt h, cmpN_lt (val_lt_of_top HL.out HL'.out (by omega) HE.out HD.out h)]
            · rw [cmpI_gt h, cmpN_gt (val_lt_of_top HL'.out HL.out (by have := HE.out; omega) HE.out.symm HD.out.symm h)]
          rw [← he]
          exact ⟨rfl, (HW.out.step _).step _⟩
  · have hb1 : (l.length != l'.length) = true := by simpa using hne
    have hb2 : ((l.length : Int) != (l'.length : Int)) = true := by rw [bne_iff_ne]; omega
    have he : cmpI (l.length : Int) (l'.length : Int) = cmpN (val l) (val l') := by
      rcases Nat.lt_or_gt_of_ne hne with h | h
      · rw [cmpI_lt (by omega), cmpN_lt (val_lt_of_length HL.out HL'.out hp' h)]
      · rw [cmpI_gt (by omega), cmpN_gt (val_lt_of_length HL'.out HL.out hp h)]
    have HE := Aside0.mk he
    clear he hne hp hp'
    go_enter Tryd.func83, Tryd.ntmps83
    go_wp2_with fail
    refine (cmpInt_calls _ _ _).mono ?_
    rintro e w1 ⟨rfl, rfl⟩
    rw [HE.out]
    go_wp2
    go_ret
    exact ⟨rfl, Drawn0.refl _⟩
theorem copy_calls (A : Option Addr) (c : Nat) (l : List Int) (w : World) (hr : (Kd.int .u32).C w A l.length l) (hn : l.length ≤ 8796093022208) :
    Calls Tryd.prog 48 #[.slice A l.length c] w fun e w' => ∃ v, e = .returned v ∧ (Kd.int .u32).R 84 w' w.heap.size (fun _ => True) v l ∧ Below w.heap.size w w' := by
  have HR := Aside0.mk hr
  clear hr
  have hO := Aside0.mk (show (Kd.int .u32).R 84 (w.alloc (.cells #[] 84)) w.heap.size (fun _ => True) (.slice (some ⟨w.heap.size, 0, none⟩) 0 0) [] from
    Kd.R_of_own (own_lit w w.heap.size 84 .u32 [] (Nat.le_refl _) (by simp)) (fun k hk => trivial))
  go_enter Tryd.func48, Tryd.ntmps48
  go_wp2_with ((at_builtin; refine Kd.R_append_rows (Kd.int .u32) (w0 := w) w.heap.size rfl (.tmp 3) (.tmp 4) 77 84 (.int .u32 0) 4 rfl Tryd.underlying77 infoU rfl (by decide) (by omega) _ [] l A l.length c (fun _ => True) (fun _ => False) rfl rfl hO.out (Kd.C_below HR.out (below_alloc (Below.refl _ _) _)) (fun _ _ h => h) (fun _ h => h.elim) (fun _ _ => trivial) (below_alloc (Below.refl _ _) _) (by simp) (by simp; omega) ?_; intro v1 w1 ho hb hg hat; have HO := Aside0.mk ho; have HB := Aside0.mk hb; clear ho hb hg hat))
  go_ret
  exact ⟨_, rfl, HO.out, HB.out⟩
end Go.Proofs.YthjjbfpcclojbaaDoor.Hand
set_option linter.unusedVariables false
set_option linter.unusedSimpArgs false
namespace Go.Proofs.YthjjbfpcclojbaaDoor.Hand
open Go.RowKit Go.Proofs.YthjjbfpcclojbaaDoorW.PrintWords Go.Proofs.YthjjbfpcclojbaaDoorW.PrintLast Go.Proofs.YthjjbfpcclojbaaDoorW.PrintMore
/-- From limb k on the list o holds the quotient, the rest is r; below k the limbs are those of l. -/
def ShrinkIn (d : Int) (l : List Int) (k : Nat) (r : Int) (o : List Int) : Prop :=
  o.length = l.length ∧ Limbs o ∧ (∀ j : Nat, j < k → rd o (j : Int) = rd l (j : Int)) ∧ 0 ≤ r ∧ r < d ∧ val (l.drop k) = d.toNat * val (o.drop k) + r.toNat
theorem shrinkIn_start {d : Int} {l : List Int} (hd : 0 < d) (hl : Limbs l) : ShrinkIn d l l.length 0 l :=
  ⟨rfl, hl, fun _ _ => rfl, by omega, hd, by rw [List.drop_length]; simp [val]⟩
theorem drop_set_self (o : List Int) (k : Nat) (x : Int) (h : k < o.length) : (o.set k x).drop k = x :: o.drop (k + 1) := by
  rw [List.drop_eq_getElem_cons (by rw [List.length_set]; exact h), List.getElem_set_self, List.drop_set_of_lt (by omega)]
theorem shrinkIn_step {d r t q : Int} {l o : List Int} {k : Nat} (hd : 0 < d ∧ d < 4294967296) (hl : Limbs l) (hk : k < l.length) (h : ShrinkIn d l (k + 1) r o) (ht : t = rd o (k : Int) + 4294967296 * r) (hq : q = t / d) :
    0 ≤ q ∧ q < 4294967296 ∧ ShrinkIn d l k (t % d) (o.set k q) := by
  obtain ⟨h1, h2, h3, h4, h5, h6⟩ := h
  have hx := limbs_rd hl (k : Int)
  have he := h3 k (by omega)
  rw [he] at ht
  have ht0 : 0 ≤ t := by omega
  have hq0 : 0 ≤ q := by rw [hq]; exact Int.ediv_nonneg ht0 (by omega)
  have hq1 : q < 4294967296 := by
    rw [hq]
    apply Int.ediv_lt_of_lt_mul hd.1
    omega
  refine ⟨hq0, hq1, by rw [List.length_set]; exact h1, h2.set _ ⟨hq0, hq1⟩, fun j hj => ?_, Int.emod_nonneg _ (by omega), Int.emod_lt_of_pos _ hd.1, ?_⟩
  · rw [rd_set_ne _ (by omega)]
    exact h3 j (by omega)
  · rw [drop_set_self _ _ _ (by omega), val, val_drop l k hk, h6]
    have e1 : t.toNat = d.toNat * q.toNat + (t % d).toNat := by
      have h7 := Int.mul_ediv_add_emod t d
      have h8 := Int.emod_nonneg t (show d ≠ 0 by omega)
      have h9 : (d * q).toNat = d.toNat * q.toNat := Int.toNat_mul (by omega) hq0
      have h10 := Int.mul_nonneg (show 0 ≤ d by omega) hq0
      rw [← h9]
      rw [← hq] at h7
      omega
    have e2 : t.toNat = (rd l (k : Int)).toNat + 4294967296 * r.toNat := by omega
    generalize (rd l (k : Int)).toNat = x at *
    generalize (t % d).toNat = m at *
    generalize d.toNat = dn at *
    generalize q.toNat = qn at *
    generalize val (o.drop (k + 1)) = Q at *
    rw [Nat.mul_add, Nat.mul_add, Nat.mul_left_comm dn]
    omega
theorem shrinkIn_end {d r : Int} {l o : List Int} (hd : 0 < d) (h : ShrinkIn d l 0 r o) : trimL o = lim (val l / d.toNat) ∧ r = ((val l % d.toNat : Nat) : Int) := by
  obtain ⟨h1, h2, h3, h4, h5, h6⟩ := h
  rw [List.drop_zero, List.drop_zero] at h6
  have hr : r.toNat < d.toNat := by omega
  rw [trimL_eq h2]
  have e : val l / d.toNat = val o := by
    rw [h6, Nat.mul_add_div (by omega), Nat.div_eq_of_lt hr, Nat.add_zero]
  have e2 : val l % d.toNat = r.toNat := by
    rw [h6, Nat.mul_add_mod, Nat.mod_eq_of_lt hr]
  rw [e, e2]
  exact ⟨rfl, by omega⟩
theorem size_setCell (w : World) (p : Addr) (u : Value) : (w.setCell p u).heap.size = w.heap.size := by simp [World.setCell]
set_option maxHeartbeats 2000000 in
theorem shrink_calls (g base : Nat) (v : Value) (l : List Int) (d : Int) (w0 w : World) (hb : Blk w g 77 #[v]) (hr : (Kd.int .u32).R 84 w base (fun k => k ≠ g) v l) (hB : Below base w0 w) (hbs : base ≤ w.heap.size) (hg : base ≤ g) (hd : 0 < d ∧ d < 4294967296) (hl : Limbs l) :
    Calls Tryd.prog 49 #[.pointer (some ⟨g, 0, none⟩), .int .u32 d] w fun e w' => ∃ v', e = .returned (.int .u32 ((val l % d.toNat : Nat) : Int)) ∧ Blk w' g 77 #[v'] ∧ (Kd.int .u32).R 84 w' base (fun k => k ≠ g) v' (lim (val l / d.toNat)) ∧ Below base w0 w' := by
  obtain ⟨A, c, rfl⟩ := Kd.R_slice hr
  have hlen : l.length ≤ 9223372036854775807 := (Kd.R_reads' hr).2.2.2.1
  have hlc : l.length ≤ c := (Kd.R_reads' hr).2.1
  have HLC := Aside0.mk hlc
  have HR := Aside0.mk hr
  have HBk := Aside0.mk hb
  have HB := Aside0.mk hB
  have HL := Aside0.mk hl
  have hcell := HBk.out.cell 0
  have hz : (d == 0) = false := by rw [beq_eq_false_iff_ne]; omega
  have hd1 := hd.1
  have hd2 := hd.2
  have HD := Aside0.mk hd
  clear hr hb hB hl hd hlc
  go_enter Tryd.func49, Tryd.ntmps49
  go_wp2
  go_loopg [5, 6] l.length (fun k v5 v6 w' => ∃ (r : Int) (o : List Int), v5 = .int .u64 r ∧ v6 = .int .i64 ((k : Int) - 1) ∧ Aside0 (k ≤ l.length) ∧ Aside0 (ShrinkIn d l k r o) ∧ Aside0 (Blk w' g 77 #[.slice A l.length c]) ∧ Aside0 ((Kd.int .u32).R 84 w' base (fun k => k ≠ g) (.slice A l.length c) o) ∧ Aside0 (Below base w0 w') ∧ Aside0 (base ≤ w'.heap.size))
  case atStart => exact ⟨0, l, rfl, rfl, ⟨Nat.le_refl _⟩, ⟨shrinkIn_start HD.out.1 HL.out⟩, HBk, HR, HB, ⟨hbs⟩⟩
  case round =>
    clear HR HB HBk hcell hbs
    obtain ⟨r, o, rfl, rfl, HK, HM, HBk, HR, HB, HBS⟩ := hrel
    have hcell := HBk.out.cell 0
    have hol := HM.out.1
    have HOL := Aside0.mk hol
    clear hol
    cases gk with
    | zero =>
      go_wp2_with fail
      have hend := shrinkIn_end HD.out.1 HM.out
      refine (trim_calls g A c o _ (by rw [HOL.out]; exact HBk.out) (Kd.R_reads' HR.out).2.2 (by rw [HOL.out]; exact HLC.out)).mono ?_
      rintro e w' ⟨rfl, hg', hb'⟩
      have hRt := Kd.R_take (m := trimN o) (Kd.R_grown HR.out hg' (by rintro k hk h; injection h with h; exact hk h)) (trimN_le _)
      have he : o.take (trimN o) = lim (val l / d.toNat) := hend.1
      rw [he] at hRt
      have HRT := Aside0.mk hRt
      have HBB := Aside0.mk (HB.out.grown hg' HBS.out (by intro k hk; injection hk with hk; omega))
      have HBL := Aside0.mk hb'
      have hr0 := HM.out.2.2.2.1
      have hr1 := HM.out.2.2.2.2.1
      have HRR := Aside0.mk hend.2
      clear hRt he hg' hb' hend
      go_wp2
      go_ret
      exact ⟨_, by rw [← HRR.out]; rfl, HBL.out, HRT.out, HBB.out⟩
    | succ k1 =>
      have hk := HK.out
      rw [show ((k1 + 1 : Nat) : Int) - 1 = (k1 : Int) from by omega]
      obtain ⟨gb, cap, hv, hgb, hgl, hcl⟩ := Kd.R_form HR.out (by rw [HOL.out]; omega)
      injection hv with hA _ _
      subst hA
      obtain ⟨hx, hfx⟩ := Kd.R_celln 0 HR.out (k1 : Int) (by omega) (by omega)
      rw [Int.toNat_natCast, show rdOf 0 o (k1 : Int) = rd o (k1 : Int) from rfl] at hx
      rw [Int.toNat_natCast] at hfx
      have hgne : gb ≠ g := HR.out.1 gb rfl
      have q1 : (k1 : Int) < (l.length : Int) := by omega
      have hr0 := HM.out.2.2.2.1
      have hr1 := HM.out.2.2.2.2.1
      have hxb := limbs_rd HM.out.2.1 (k1 : Int)
      obtain ⟨x, hxe⟩ : ∃ x, x = rd o (k1 : Int) := ⟨_, rfl⟩
      rw [← hxe] at hx hxb
      obtain ⟨t, ht⟩ : ∃ t, t = x + 4294967296 * r := ⟨_, rfl⟩
      have hor : Go.bits .or .u64 (r * 4294967296) x = t := by rw [ht]; exact or_join x r hxb ⟨hr0, by omega⟩
      have ht0 : 0 ≤ t ∧ t ≤ 18446744073709551615 := by omega
      obtain ⟨q, hq⟩ : ∃ q, q = t / d := ⟨_, rfl⟩
      have hstep := shrinkIn_step (q := q) (t := t) HD.out HL.out (by omega) HM.out (by rw [ht, hxe]) hq
      have hq0 := hstep.1
      have hq1 := hstep.2.1
      have hm0 := hstep.2.2.2.2.2.1
      have hm1 := hstep.2.2.2.2.2.2.1
      have HST := Aside0.mk hstep.2.2
      have hqq : t / d = q := hq.symm
      have HX := Aside0.mk hxe
      have HT := Aside0.mk ht
      have HP := Aside0.mk (Kd.R_putg HR.out (k1 : Int) q)
      clear hxe ht hq hstep
      go_wp2
      go_region
      all_goals
        go_wp2
        go_roundg k1
        case measure => omega
        case rel =>
          have hp := HP.out
          rw [Int.toNat_natCast] at hp
          exact ⟨_, _, rfl, by go_num, ⟨by omega⟩, HST, ⟨(HBk.out.far (fun e => hgne e.symm) _).drew⟩, ⟨Kd.R_drew hp.1⟩, ⟨below_drew (HB.out.setCell hgb _)⟩, ⟨by show base ≤ (wr.setCell _ _).heap.size; rw [size_setCell]; exact HBS.out⟩⟩
end Go.Proofs.YthjjbfpcclojbaaDoor.Hand
set_option linter.unusedVariables false
set_option linter.unusedSimpArgs false
namespace Go.Proofs.YthjjbfpcclojbaaDoor.Hand
open Go.RowKit Go.Proofs.YthjjbfpcclojbaaDoorW.PrintWords Go.Proofs.YthjjbfpcclojbaaDoorW.PrintLast Go.Proofs.YthjjbfpcclojbaaDoorW.PrintMore
/-- Behind i limbs of l, shifted by p = 2^k. -/
def LeftIn (p : Nat) (l : List Int) (i : Nat) (o : List Int) : Prop :=
  o.length = l.length + 1 ∧ Limbs o ∧ val o = val (l.take i) * p ∧ rd o (i : Int) < (p : Int) ∧ ∀ j : Nat, i < j → rd o (j : Int) = 0
theorem leftIn_start (p : Nat) (hp : 0 < p) (l : List Int) : LeftIn p l 0 (List.replicate (l.length + 1) 0) := by
  have hz : ∀ j : Nat, rd (List.replicate (l.length + 1) 0) (j : Int) = 0 := fun j => by
    unfold rd
    rw [List.getD_eq_getElem?_getD, List.getElem?_replicate]
    split <;> rfl
  exact ⟨by simp, Limbs.replicate _, by rw [val_replicate]; simp [val], by rw [hz]; omega, fun j _ => hz j⟩
theorem or32_join (k : Nat) (hk : k ≤ 31) (z u : Int) (hz : 0 ≤ z ∧ z < ((2 ^ k : Nat) : Int)) (hu : 0 ≤ u ∧ u < 4294967296) (hm : u.toNat % 2 ^ k = 0) : Go.bits .or .u32 z u = z + u := by
  have h2 : 2 ^ k ≤ 2 ^ 31 := Nat.pow_le_pow_right (by omega) hk
  have h3 : (2 ^ 31 : Nat) = 2147483648 := rfl
  rw [u32_or _ _ (by omega) (by omega) (by omega) (by omega), Nat.or_comm, nat_join k _ _ hm (by omega)]
  omega
theorem shl_parts (k : Nat) (hk : k ≤ 31) (x : Int) (hx : 0 ≤ x ∧ x < 4294967296) :
    ∃ s : Int, IntKind.u64.wrap (x * 2 ^ k) = s ∧ 0 ≤ s ∧ s ≤ 9223372036854775807 ∧ s.toNat = x.toNat * 2 ^ k ∧ (s % 4294967296).toNat % 2 ^ k = 0 ∧ s / 4294967296 < ((2 ^ k : Nat) : Int) ∧ s % 4294967296 ≤ 4294967296 - ((2 ^ k : Nat) : Int) := by
  have h2 : 2 ^ k ≤ 2 ^ 31 := Nat.pow_le_pow_right (by omega) hk
  have h3 : (2 ^ 31 : Nat) = 2147483648 := rfl
  have hp : 0 < 2 ^ k := Nat.pow_pos (by omega)
  obtain ⟨n, rfl⟩ := Int.eq_ofNat_of_zero_le hx.1
  have hc : (n : Int) * 2 ^ k = ((n * 2 ^ k : Nat) : Int) := by simp
  have hn : n < 4294967296 := by omega
  have hb : n * 2 ^ k ≤ 4294967295 * 2147483648 := Nat.mul_le_mul (by omega) (by omega)
  have hq : n * 2 ^ k / 4294967296 < 2 ^ k := by
    rw [Nat.div_lt_iff_lt_mul (by omega), Nat.mul_comm]
    exact Nat.mul_lt_mul_of_pos_left hn hp
  have hd : (2 ^ k) ∣ 4294967296 := by
    have : (4294967296 : Nat) = 2 ^ 32 := rfl
    rw [this]
    exact Nat.pow_dvd_pow 2 (by omega)
  have hm : n * 2 ^ k % 4294967296 % 2 ^ k = 0 := by
    rw [Nat.mod_mod_of_dvd _ hd]
    exact Nat.mul_mod_left n _
  have hmi : (((n * 2 ^ k : Nat) : Int) % 4294967296).toNat = n * 2 ^ k % 4294967296 := by
    generalize n * 2 ^ k = N
    omega
  refine ⟨((n * 2 ^ k : Nat) : Int), ?_, by omega, by omega, by rw [Int.toNat_natCast, Int.toNat_natCast], by rw [hmi]; exact hm, by omega, ?_⟩
  · rw [hc, IntKind.wrap_u64]
    exact Int.emod_eq_of_lt (by omega) (by omega)
  · obtain ⟨m, hm2⟩ := hd
    have h4 : n * 2 ^ k % 4294967296 ≤ 4294967296 - 2 ^ k := by
      have h5 := Nat.div_add_mod (n * 2 ^ k % 4294967296) (2 ^ k)
      rw [hm, Nat.add_zero] at h5
      have h6 : n * 2 ^ k % 4294967296 < 4294967296 := Nat.mod_lt _ (by omega)
      generalize n * 2 ^ k % 4294967296 = r at *
      generalize 2 ^ k = P at *
      rw [hm2] at h6 ⊢
      rw [← h5] at h6 ⊢
      have h7 : r / P < m := Nat.lt_of_mul_lt_mul_left h6
      have h8 : P * (r / P + 1) ≤ P * m := Nat.mul_le_mul_left _ h7
      rw [Nat.mul_add, Nat.mul_one] at h8
      omega
    omega
theorem leftIn_step {k : Nat} {l o : List Int} {i : Nat} {x s : Int} (hl : Limbs l) (hi : i < l.length) (hx : x = rd l (i : Int)) (h : LeftIn (2 ^ k) l i o)
    (hs : 0 ≤ s ∧ s.toNat = x.toNat * 2 ^ k ∧ s / 4294967296 < ((2 ^ k : Nat) : Int) ∧ s % 4294967296 ≤ 4294967296 - ((2 ^ k : Nat) : Int)) (hk : k ≤ 31) :
    LeftIn (2 ^ k) l (i + 1) ((o.set i (rd o (i : Int) + s % 4294967296)).set (i + 1) (s / 4294967296)) := by
  obtain ⟨h1, h2, h3, h4, h5⟩ := h
  obtain ⟨s0, s1, s2, s3⟩ := hs
  have hr := limbs_rd h2 (i : Int)
  have h2k : 2 ^ k ≤ 2 ^ 31 := Nat.pow_le_pow_right (by omega) hk
  have h31 : (2 ^ 31 : Nat) = 2147483648 := rfl
  have hb : 0 ≤ rd o (i : Int) + s % 4294967296 ∧ rd o (i : Int) + s % 4294967296 < 4294967296 := by omega
  have hlen : (o.set i (rd o (i : Int) + s % 4294967296)).length = o.length := List.length_set
  refine ⟨by rw [List.length_set, List.length_set]; exact h1, (h2.set _ hb).set _ (by omega), ?_, ?_, fun j hj => ?_⟩
  · have a1 := val_set (o.set i (rd o (i : Int) + s % 4294967296)) (i + 1) (s / 4294967296) (by omega)
    have a2 := val_set o i (rd o (i : Int) + s % 4294967296) (by omega)
    rw [rd_set_ne _ (by omega), h5 (i + 1) (by omega)] at a1
    rw [val_take_succ l i hi, ← hx, Nat.add_mul, ← h3]
    have e1 : (rd o (i : Int) + s % 4294967296).toNat = (rd o (i : Int)).toNat + (s % 4294967296).toNat := by omega
    have e2 : (s / 4294967296).toNat * 4294967296 + (s % 4294967296).toNat = x.toNat * 2 ^ k := by omega
    rw [e1] at a2
    rw [Nat.pow_succ] at a1
    rw [show (0 : Int).toNat = 0 from rfl, Nat.zero_mul, Nat.add_zero] at a1
    rw [Nat.add_mul] at a2
    have e3 : x.toNat * 4294967296 ^ i * 2 ^ k = (x.toNat * 2 ^ k) * 4294967296 ^ i := Nat.mul_right_comm _ _ _
    rw [e3, ← e2, Nat.add_mul]
    have e4 : (s / 4294967296).toNat * (4294967296 ^ i * 4294967296) = (s / 4294967296).toNat * 4294967296 * 4294967296 ^ i := by
      rw [Nat.mul_comm (4294967296 ^ i), Nat.mul_assoc]
    rw [e4] at a1
    omega
  · rw [rd_set_eq _ (by omega)]
    exact s2
  · rw [rd_set_ne _ (by omega), rd_set_ne _ (by omega)]
    exact h5 j (by omega)
set_option maxHeartbeats 2000000 in
theorem left_calls (A : Option Addr) (c : Nat) (l : List Int) (k : Nat) (w : World) (hr : (Kd.int .u32).C w A l.length l) (hl : Limbs l) (hk : k ≤ 31) (hn : l.length ≤ 1099511627777) :
    Calls Tryd.prog 85 #[.slice A l.length c, .int .i64 (k : Int)] w fun e w' => ∃ v o, e = .returned v ∧ (Kd.int .u32).R 84 w' w.heap.size (fun _ => True) v o ∧ Below w.heap.size w w' ∧ LeftIn (2 ^ k) l l.length o := by
  have HR := Aside0.mk hr
  have HL := Aside0.mk hl
  clear hr hl
  have hmk : ∀ W : World, (Instr.makeSlice 77 (.int .i64 ((l.length : Int) + 1)) (.int .i64 ((l.length : Int) + 1))).run Tryd.prog W = .ok (.slice (some ⟨W.heap.size, 0, none⟩) (l.length + 1) (l.length + 1)) (W.alloc (.cells (madeCells #[.int .u32 0] (l.length + 1)) 84)) := by
    intro W
    rw [show ((l.length : Int) + 1) = ((l.length + 1 : Nat) : Int) from by omega]
    exact print_make 77 84 .u32 4 Tryd.underlying77 infoU (by omega) _ (by omega) W
  have hO := Aside0.mk (show (Kd.int .u32).R 84 (w.alloc (.cells (madeCells #[.int .u32 0] (l.length + 1)) 84)) w.heap.size (fun k => k = w.heap.size) (.slice (some ⟨w.heap.size, 0, none⟩) (l.length + 1) (l.length + 1)) (List.replicate (l.length + 1) 0) from
    Kd.R_of_own (by rw [List.length_replicate]; exact own_made w w.heap.size 84 .u32 _ (Nat.le_refl _) (by omega)) (fun k hk => by simpa [Value.ownBlock] using hk.symm))
  go_enter Tryd.func85, Tryd.ntmps85
  go_wp2
  go_loopg [15] l.length (fun g v15 w' => ∃ i : Nat, v15 = .int .i64 (i : Int) ∧ Aside0 (i + g = l.length) ∧ ∃ o : List Int, Aside0 (LeftIn (2 ^ k) l i o) ∧ Aside0 ((Kd.int .u32).R 84 w' w.heap.size (fun k => k = w.heap.size) (.slice (some ⟨w.heap.size, 0, none⟩) (l.length + 1) (l.length + 1)) o) ∧ Aside0 (Below w.heap.size w w'))
  case atStart =>
    refine ⟨0, rfl, ⟨by omega⟩, _, ⟨?_⟩, hO, ⟨below_alloc (Below.refl _ _) _⟩⟩
    exact leftIn_start _ (Nat.pow_pos (by omega)) l
  case round =>
    clear hO
    obtain ⟨i, rfl, HI, o, HM, HO, HB⟩ := hrel
    by_cases hlt : i < l.length
    · have hx0 := limbs_rd HL.out (i : Int)
      obtain ⟨x, hx⟩ : ∃ x, x = rd l (i : Int) := ⟨_, rfl⟩
      rw [← hx] at hx0
      obtain ⟨ad, eA, hcx⟩ := Kd.at_int HR.out (i : Int) (by omega) (by omega)
      subst eA
      rw [Int.toNat_natCast, ← hx] at hcx
      replace hcx := (HB.out.cell (World.block_lt_of_cell? w _ hcx)).trans hcx
      have HXE := Aside0.mk hx
      clear hx
      have hil : (i : Int) < (l.length : Int) := by omega
      have hol := HM.out.1
      obtain ⟨hcz, hfz⟩ := Kd.R_celln 0 HO.out (i : Int) (by omega) (by omega)
      obtain ⟨hcy, hfy⟩ := Kd.R_celln 0 HO.out ((i + 1 : Nat) : Int) (by omega) (by omega)
      rw [Int.toNat_natCast] at hcz hfz hcy hfy
      obtain ⟨z, hz⟩ : ∃ z, z = rdOf 0 o (i : Int) := ⟨_, rfl⟩
      rw [← hz] at hcz
      have hz0 : 0 ≤ z ∧ z < ((2 ^ k : Nat) : Int) := ⟨by rw [hz]; exact (limbs_rd HM.out.2.1 _).1, by rw [hz]; exact HM.out.2.2.2.1⟩
      obtain ⟨s, hs, s0, s1, s2, s3, s4, s5⟩ := shl_parts k hk x hx0
      obtain ⟨t, ht⟩ : ∃ t, t = z + s % 4294967296 := ⟨_, rfl⟩
      have hor : Go.bits .or .u32 z (s % 4294967296) = t := by rw [ht]; exact or32_join k hk z _ hz0 (by omega) s3
      have HS := Aside0.mk (show 0 ≤ s ∧ s.toNat = x.toNat * 2 ^ k ∧ s / 4294967296 < ((2 ^ k : Nat) : Int) ∧ s % 4294967296 ≤ 4294967296 - ((2 ^ k : Nat) : Int) from ⟨s0, s2, s4, s5⟩)
      have HZ := Aside0.mk hz
      have HZ0 := Aside0.mk hz0
      have HT := Aside0.mk ht
      have hq : (i : Int) < (l.length : Int) + 1 := by omega
      have HOL := Aside0.mk hol
      clear s2 s3 s4 s5 hz ht hz0 hol
      go_wp2
      go_roundg (gk - 1)
      case measure => have := HI.out; omega
      case rel =>
        have hstep := leftIn_step (s := s) HL.out hlt HXE.out HM.out HS.out hk
        have hp1 := Kd.R_putg HO.out (i : Int) t
        have hp2 := Kd.R_putg hp1.1 ((i + 1 : Nat) : Int) (s / 4294967296)
        rw [Int.toNat_natCast] at hp1 hp2
        rw [Int.toNat_natCast] at hp2
        have e : (o.set i t).set (i + 1) (s / 4294967296) = (o.set i (rd o (i : Int) + s % 4294967296)).set (i + 1) (s / 4294967296) := by rw [HT.out, HZ.out]; rfl
        exact ⟨i + 1, by go_num, ⟨by have := HI.out; omega⟩, _, ⟨hstep⟩, ⟨e ▸ hp2.1⟩, ⟨below_set (below_set HB.out (Nat.le_refl _)) (Nat.le_refl _)⟩⟩
    · have hie : i = l.length := by have := HI.out; omega
      subst hie
      go_wp2
      go_ret
      exact ⟨_, _, rfl, Kd.R_mono HO.out (fun _ _ => trivial), HB.out, HM.out⟩
end Go.Proofs.YthjjbfpcclojbaaDoor.Hand
set_option linter.unusedVariables false
set_option linter.unusedSimpArgs false
namespace Go.Proofs.YthjjbfpcclojbaaDoor.Hand
open Go.RowKit Go.Proofs.YthjjbfpcclojbaaDoorW.PrintWords Go.Proofs.YthjjbfpcclojbaaDoorW.PrintLast Go.Proofs.YthjjbfpcclojbaaDoorW.PrintMore
end Go.Proofs.YthjjbfpcclojbaaDoor.Hand
end

section
/- Kinds for the laws, rationals as triples, and arguments opened by their kinds. The conditions stand with each part. -/
set_option linter.unusedVariables false
set_option linter.unusedSimpArgs false
namespace Go.Proofs.YthjjbfpcclojbaaDoor.Hand
open Go.RowKit Go.Proofs.YthjjbfpcclojbaaDoorW.PrintWords Go.Proofs.YthjjbfpcclojbaaDoorW.PrintLast Go.Proofs.YthjjbfpcclojbaaDoorW.PrintMore
/-- A list of limbs in one cell. -/
def natK : Kd (List Int) := Kd.slice 84 (Kd.int .u32)
/-- A rational as it lies in memory. -/
structure Rt where
  neg : Bool
  num : List Int
  den : List Int
/-- A rational: a sign and two lists of limbs. -/
def ratK : Kd Rt := Kd.iso (Kd.pair Kd.bool (spair natK natK)) (fun r => (r.neg, r.num, r.den))
section
variable {w w' : World} {base n c : Nat} {ok : Nat → Prop} {A : Option Addr} {l : List Int} {v : Value} {cs : List Value} {r : Rt}
theorem ratK_form (h : ratK.K w r cs) : ∃ A c A' c', cs = [.bool r.neg, .slice A r.num.length c, .slice A' r.den.length c'] ∧ r.num.length ≤ c ∧ (Kd.int .u32).C w A r.num.length r.num ∧ r.den.length ≤ c' ∧ (Kd.int .u32).C w A' r.den.length r.den := by
  obtain ⟨c0, c1, rfl, h0, c2, c3, rfl, ⟨A, c, rfl, hc, hC⟩, ⟨A', c', rfl, hc', hC'⟩⟩ := h
  have e0 : c0 = [.bool r.neg] := h0
  subst e0
  exact ⟨A, c, A', c', rfl, hc, hC, hc', hC'⟩
theorem ratK_of {s : Bool} {A' : Option Addr} {c' : Nat} {l' : List Int} (hc : l.length ≤ c) (h : (Kd.int .u32).C w A l.length l) (hc' : l'.length ≤ c') (h' : (Kd.int .u32).C w A' l'.length l') : ratK.K w ⟨s, l, l'⟩ [.bool s, .slice A l.length c, .slice A' l'.length c'] :=
  ⟨[.bool s], [.slice A l.length c, .slice A' l'.length c'], rfl, rfl, [.slice A l.length c], [.slice A' l'.length c'], rfl, ⟨A, c, rfl, hc, h⟩, ⟨A', c', rfl, hc', h'⟩⟩
end
/-- Blocks made between two sizes of the heap, and a side of a result. -/
structure Iv (a b : Nat) (P : Nat → Prop) (k : Nat) : Prop where mk :: (lo : a ≤ k) (hi : k < b) (p : P k)
end Go.Proofs.YthjjbfpcclojbaaDoor.Hand
set_option linter.unusedVariables false
set_option linter.unusedSimpArgs false
namespace Go.Proofs.YthjjbfpcclojbaaDoor.Hand
open Go.RowKit Go.Proofs.YthjjbfpcclojbaaDoorW.PrintWords
/-- A natural with a sign. -/
def sgn (s : Bool) (n : Nat) : Int := if s then -(n : Int) else (n : Int)
/-- The valid triple of a rational. -/
def repr (q : Rat) : Rt := ⟨decide (q.num < 0), lim q.num.natAbs, lim q.den⟩
/-- The last element is not zero. -/
def plainB (l : List Int) : Bool := decide (l.length = 0) || (rd l ((l.length : Int) - 1) != 0)
/-- Is the triple valid? -/
def okR (r : Rt) : Bool := plainB r.num && plainB r.den && decide (r.den.length ≠ 0) && decide (Nat.gcd (val r.num) (val r.den) = 1) && (decide (r.num.length ≠ 0) || !r.neg)
theorem plainB_iff {l : List Int} : plainB l = true ↔ Plain l := by
  unfold plainB Plain
  rcases Nat.eq_zero_or_pos l.length with h | h
  · rw [List.length_eq_zero_iff] at h
    subst h
    simp
  · obtain ⟨m, hm⟩ : ∃ m, l.length = m + 1 := ⟨l.length - 1, by omega⟩
    have hne : l ≠ [] := by intro e; subst e; simp at h
    have e1 : (l.length : Int) - 1 = (m : Int) := by omega
    rw [e1, rd_lt (by omega : m < l.length)]
    have e2 : l.getLast hne = l[m] := by
      rw [List.getLast_eq_getElem]
      simp only [hm, Nat.add_sub_cancel]
    constructor
    · intro hp _
      rw [e2]
      simp at hp
      exact hp.resolve_left hne
    · intro hp
      have := hp hne
      rw [e2] at this
      simp
      exact .inr this
theorem lim_len_iff {n : Nat} : (lim n).length = 0 ↔ n = 0 := by rw [List.length_eq_zero_iff, lim_nil_iff]
theorem sgn_natAbs (z : Int) : sgn (decide (z < 0)) z.natAbs = z := by unfold sgn; by_cases h : z < 0 <;> simp [h] <;> omega
theorem natAbs_sgn (s : Bool) (n : Nat) : (sgn s n).natAbs = n := by cases s <;> simp [sgn]
theorem sgn_neg_iff {s : Bool} {n : Nat} (h : 0 < n) : decide (sgn s n < 0) = s := by cases s <;> simp [sgn] <;> omega
theorem repr_limbs (q : Rat) : Limbs (repr q).num ∧ Limbs (repr q).den := ⟨limbs_lim _, limbs_lim _⟩
theorem val_num (q : Rat) : val (repr q).num = q.num.natAbs := val_lim _
theorem val_den (q : Rat) : val (repr q).den = q.den := val_lim _
theorem repr_of_okR {r : Rt} (hn : Limbs r.num) (hd : Limbs r.den) (h : okR r = true) : ∃ q, r = repr q := by
  obtain ⟨s, n, d⟩ := r
  unfold okR at h
  simp only [Bool.and_eq_true, decide_eq_true_eq, Bool.or_eq_true, Bool.not_eq_true'] at h hn hd
  obtain ⟨⟨⟨⟨h1, h2⟩, h3⟩, h4⟩, h5⟩ := h
  have p1 := plainB_iff.1 h1
  have p2 := plainB_iff.1 h2
  have hd0 : val d ≠ 0 := by
    have := val_pos_of_plain hd p2 (fun e => h3 (by rw [e]; rfl))
    omega
  refine ⟨⟨sgn s (val n), val d, hd0, by rw [natAbs_sgn]; exact h4⟩, ?_⟩
  unfold repr
  simp only [natAbs_sgn]
  rw [lim_val hn p1, lim_val hd p2]
  rcases Nat.eq_zero_or_pos (val n) with h0 | h0
  · have hn0 : n = [] := by
      have := lim_val hn p1
      rw [h0, lim_zero] at this
      exact this.symm
    subst hn0
    have : s = false := by simpa using h5
    subst this
    simp [val, sgn]
  · rw [sgn_neg_iff h0]
/-- A rational by its triple. -/
theorem rat_eq (q : Rat) : mkRat (sgn (repr q).neg (val (repr q).num)) (val (repr q).den) = q := by
  rw [val_num, val_den]
  show mkRat (sgn (decide (q.num < 0)) q.num.natAbs) q.den = q
  rw [sgn_natAbs, Rat.mkRat_self]
end Go.Proofs.YthjjbfpcclojbaaDoor.Hand
set_option linter.unusedVariables false
set_option linter.unusedSimpArgs false
namespace Go.Proofs.YthjjbfpcclojbaaDoor.Hand
open Go.ChangeShapes Go.WideShapes Go.Joins Go.RowKit Go.Proofs.YthjjbfpcclojbaaDoorW.PrintWords Go.Proofs.YthjjbfpcclojbaaDoorW.PrintLast Go.Proofs.YthjjbfpcclojbaaDoorW.PrintMore
/-- What reads as data of type t has cells of kind d, and is good. -/
def Opens {α : Type} (d : Kd α) (t : TypeId) (good : α → Prop) : Prop :=
  ∀ {H : Type} (enc : TypeId × Value → H) (W : World) (fuel : Nat) (cs : List Value) (x : DataW H × List MemPlace), DataW.trod enc Tryd.prog W 0 (fun _ => true) true fuel t cs = some x → ∃ y, d.K W y cs ∧ good y
theorem opens_bool {t : TypeId} (ht : Tryd.prog.underlying t = some .bool) : Opens Kd.bool t (fun _ => True) := by
  intro H enc W fuel cs x h
  obtain ⟨b, rfl, _⟩ := DataW.trod_bool ht h
  exact ⟨b, rfl, trivial⟩
theorem opens_int {t : TypeId} {k : IntKind} (ht : Tryd.prog.underlying t = some (.int k)) : Opens (Kd.int k) t (fun n => (Lit.int k n).wf = true) := by
  intro H enc W fuel cs x h
  obtain ⟨n, rfl, _, hw⟩ := DataW.trod_int ht h
  exact ⟨n, rfl, hw⟩
theorem opens_mono {α : Type} {d : Kd α} {t : TypeId} {good good' : α → Prop} (h : Opens d t good) (hg : ∀ y, good y → good' y) : Opens d t good' := by
  intro H enc W fuel cs x hx
  obtain ⟨y, h1, h2⟩ := h enc W fuel cs x hx
  exact ⟨y, h1, hg y h2⟩
theorem opens_slice {α : Type} {d : Kd α} {t e : TypeId} {good : α → Prop} (ht : Tryd.prog.underlying t = some (.slice e)) (hc : Tryd.prog.cellsOf e = d.sz) (h : Opens d e good) : Opens (Kd.slice e d) t (fun xs => ∀ x ∈ xs, good x) := by
  intro H enc W fuel cs x hx
  rcases Go.Deep.open_slice ht hx with ⟨rfl, _⟩ | ⟨a, len, cap, m, n, D, Pl, rfl, _, hl, hm, hmm, _, hel⟩
  · exact ⟨[], ⟨none, 0, rfl, Nat.le_refl _, Kd.C_nil d W⟩, fun x hx => by simp at hx⟩
  · simp only [if_true] at hmm
    subst hmm
    have key : ∀ k, k ≤ len → ∃ xs : List α, xs.length = k ∧ (∀ x ∈ xs, good x) ∧ ∀ j p, xs[j]? = some p → ∃ c, c.length = d.sz ∧ d.K W p c ∧ ∀ i u, c[i]? = some u → W.cell? (a.add (j * d.sz + i)) = some u := by
      intro k
      induction k with
      | zero => exact fun _ => ⟨[], rfl, fun x hx => by simp at hx, fun j p h => by simp at h⟩
      | succ k ih =>
        intro hk
        obtain ⟨xs, h1, h2, h3⟩ := ih (by omega)
        obtain ⟨cs', hcs, htr⟩ := hel k (by omega)
        rw [hc] at hcs
        obtain ⟨_, hlen, hcell⟩ := World.cells?_some hcs
        obtain ⟨y, hK, hg⟩ := h enc W n cs' _ htr
        refine ⟨xs ++ [y], by simp [h1], fun x hx => ?_, fun j p hj => ?_⟩
        · rcases List.mem_append.1 hx with hx | hx
          · exact h2 x hx
          · rw [List.mem_singleton.1 hx]; exact hg
        · rcases Nat.lt_or_ge j k with hjk | hjk
          · rw [List.getElem?_append_left (by omega)] at hj
            exact h3 j p hj
          · rw [List.getElem?_append_right (by omega), h1] at hj
            have hjk' : j = k := by
              have := (List.getElem?_eq_some_iff.1 hj).1
              simp at this
              omega
            subst hjk'
            have hp : y = p := by simpa using hj
            subst hp
            refine ⟨cs', hlen, hK, fun i u hu => ?_⟩
            have hi : i < d.sz := by have := (List.getElem?_eq_some_iff.1 hu).1; omega
            have h4 := hcell i hi
            rw [Go.Deep.add_add] at h4
            rw [h4]
            exact hu
    obtain ⟨xs, h1, h2, h3⟩ := key len (Nat.le_refl _)
    subst h1
    refine ⟨xs, ⟨some a, _, rfl, hl, rfl, ?_, fun _ => ⟨a, rfl, h3⟩⟩, h2⟩
    unfold maxLen at hm
    omega
theorem limbs_of_good {l : List Int} (h : ∀ x ∈ l, (Lit.int .u32 x).wf = true) : Limbs l := fun x hx => by
  have := h x hx
  simp [Lit.wf, show IntKind.u32.min = 0 from rfl, show IntKind.u32.max = 4294967295 from rfl] at this
  omega
set_option maxRecDepth 100000 in
theorem opens_nat : Opens natK 56 Limbs := opens_mono (opens_slice Tryd.underlying56 (by kernel_rfl) (opens_int Tryd.underlying84)) (fun y h => limbs_of_good h)
/-- Both lists are lists of limbs. -/
def LimbsR (r : Rt) : Prop := Limbs r.num ∧ Limbs r.den
set_option maxRecDepth 100000 in
theorem opens_rat : Opens ratK 95 LimbsR := by
  intro H enc W fuel cs x h
  obtain ⟨y0, y1, y2, n, hx, hl, h0, h1, h2⟩ := Go.Deep.trod_struct3 Tryd.underlying95 h
  rw [show Tryd.prog.cellsOf 95 = 3 by kernel_rfl] at hl
  obtain ⟨c0, c1, c2, rfl⟩ : ∃ a b c, cs = [a, b, c] := by
    match cs, hl with
    | [a, b, c], _ => exact ⟨a, b, c, rfl⟩
  have h0' : DataW.trod enc Tryd.prog W 0 (fun _ => true) true n 4 [c0] = some y0 := h0
  have h1' : DataW.trod enc Tryd.prog W 0 (fun _ => true) true n 56 [c1] = some y1 := h1
  have h2' : DataW.trod enc Tryd.prog W 0 (fun _ => true) true n 56 [c2] = some y2 := h2
  obtain ⟨b, hb, _⟩ := opens_bool Tryd.underlying4 enc W n _ _ h0'
  obtain ⟨l, hK, hl⟩ := opens_nat enc W n _ _ h1'
  obtain ⟨l', hK', hl'⟩ := opens_nat enc W n _ _ h2'
  exact ⟨⟨b, l, l'⟩, ⟨[c0], [c1, c2], rfl, hb, [c1], [c2], rfl, hK, hK'⟩, hl, hl'⟩
end Go.Proofs.YthjjbfpcclojbaaDoor.Hand
end

section
/-
  DERIVED: THE SHELF's CONTRACTS AT THIS DUMP, IN PLAIN WORDS (tools/lay-plain.mjs out of 'TrydShelf.lean', which tools/lay-shelf.mjs wrote): THE SAME DECLARATIONS UNDER THE SAME NAMES: 'import', 'namespace', 'open', 'def', 'theorem' AND NOTHING ELSE: no command of the shelf's: FOR A HAND-IN. Each laying: the table of numbers ('.._ren') and one theorem, a field a fact of the dump's own or the kernel's comparison; each contract: ONE APPLICATION.
-/
namespace Go.Proofs
open Go.Shelf
def Tryd.lays156_ren : Go.Shelf.Ren := ⟨fun | 156 => 17 | 165 => 35 | 166 => 16 | 169 => 22 | 240 => 34 | 241 => 46 | 276 => 45 | 277 => 58 | n => n, fun | 31 => 45 | 9 => 9 | 3 => 3 | 4 => 4 | 0 => 0 | 20 => 20 | 72 => 44 | 76 => 48 | 70 => 42 | 37 => 35 | 75 => 47 | 127 => 79 | 164 => 87 | 5 => 5 | 80 => 59 | n => n, fun | n => n⟩
theorem Tryd.lays156 : Go.Proofs.Lays.n156 Tryd.prog Tryd.lays156_ren := {
  mixed := by kernel_rfl
  f156 := Tryd.func17.trans (congrArg some (by kernel_rfl))
  f165 := Tryd.func35.trans (congrArg some (by kernel_rfl))
  f166 := Tryd.func16.trans (congrArg some (by kernel_rfl))
  f169 := Tryd.func22.trans (congrArg some (by kernel_rfl))
  f240 := Tryd.func34.trans (congrArg some (by kernel_rfl))
  f241 := Tryd.func46.trans (congrArg some (by kernel_rfl))
  f276 := Tryd.func45.trans (congrArg some (by kernel_rfl))
  f277 := Tryd.func58.trans (congrArg some (by kernel_rfl))
  t0 := Tryd.underlying0
  a0 := Tryd.isAgg0
  z0 := Tryd.sizeOf0
  v0 := Tryd.zeroValue0
  t3 := Tryd.underlying3
  a3 := Tryd.isAgg3
  z3 := Tryd.sizeOf3
  v3 := Tryd.zeroValue3
  t4 := Tryd.underlying4
  a4 := Tryd.isAgg4
  z4 := Tryd.sizeOf4
  v4 := Tryd.zeroValue4
  t9 := Tryd.underlying9
  a9 := Tryd.isAgg9
  z9 := Tryd.sizeOf9
  v9 := Tryd.zeroValue9
  t20 := Tryd.underlying20
  a20 := Tryd.isAgg20
  z20 := Tryd.sizeOf20
  v20 := Tryd.zeroValue20
  t31 := Tryd.underlying45
  a31 := Tryd.isAgg45
  z31 := Tryd.sizeOf45
  v31 := Tryd.zeroValue45
  t37 := Tryd.underlying35
  a37 := Tryd.isAgg35
  z37 := Tryd.sizeOf35
  v37 := Tryd.zeroValue35
  t70 := Tryd.underlying42
  a70 := Tryd.isAgg42
  z70 := Tryd.sizeOf42
  v70 := Tryd.zeroValue42
  t72 := Tryd.underlying44
  a72 := Tryd.isAgg44
  z72 := Tryd.sizeOf44
  v72 := Tryd.zeroValue44
  t75 := Tryd.underlying47
  a75 := Tryd.isAgg47
  z75 := Tryd.sizeOf47
  v75 := Tryd.zeroValue47
  t76 := Tryd.underlying48
  a76 := Tryd.isAgg48
  z76 := Tryd.sizeOf48
  v76 := Tryd.zeroValue48
  t127 := Tryd.underlying79
  a127 := Tryd.isAgg79
  z127 := Tryd.sizeOf79
  v127 := Tryd.zeroValue79
  t164 := Tryd.underlying87
  a164 := Tryd.isAgg87
  z164 := Tryd.sizeOf87
  v164 := Tryd.zeroValue87 }
theorem Tryd.Builder_Extra_156 : Builder.Extra Tryd.prog Tryd.lays156_ren := {
  sizeBuilder := by kernel_rfl
  liesBuilder := by kernel_rfl
  t5 := Tryd.underlying5
  a5 := Tryd.isAgg5
  z5 := Tryd.sizeOf5
  v5 := Tryd.zeroValue5
  infoByte := by kernel_rfl
  cellsByte := by kernel_rfl
  sizeByte := by kernel_rfl
  neB5 := by decide }
open Go.RowKit in
/-- No element: the empty string; the world is as it was. (Whatever the slice's address and capacity: a nil slice too.) (LAID: no walk: one application.) -/
theorem Tryd.strings_Join_none (a : Option Addr) (c : Nat) (sep : ByteArray) (w : World) :
    Calls Tryd.prog 17 #[.slice a 0 c, .string sep] w fun e w' => e = .returned (.string ⟨#[]⟩) ∧ w' = w := Any.strings_Join_none Tryd.lays156 Tryd.Builder_Extra_156 a c sep w
open Go.RowKit in
/-- strings.Join: "Join concatenates the elements of its first argument to create a single string. The separator string sep is placed between elements in the resulting string.": HOWEVER MANY ELEMENTS. Below the heap's end the world is as it was. (LAID: no walk: one application.) -/
theorem Tryd.strings_Join (bk o c : Nat) (xs : List ByteArray) (sep : ByteArray) (w : World) (hcells : ∀ (j : Nat) x, xs[j]? = some x → w.cell? ⟨bk, o + j, none⟩ = some (.string x)) (hbk : bk < w.heap.size) (hN : xs.length ≤ 140737488355328) (hcap : xs.length ≤ c) (hlen : (Lib.join (xs.map (·.data.toList)) sep.data.toList).length ≤ 140737488355328) :
    Calls Tryd.prog 17 #[.slice (some ⟨bk, o, none⟩) xs.length c, .string sep] w fun e w' => e = .returned (.string ⟨(Lib.join (xs.map (·.data.toList)) sep.data.toList).toArray⟩) ∧ Below w.heap.size w w' := Any.strings_Join Tryd.lays156 Tryd.Builder_Extra_156 bk o c xs sep w hcells hbk hN hcap hlen
def Tryd.lays133_ren : Go.Shelf.Ren := ⟨fun | 133 => 84 | 128 => 90 | n => n, fun | 51 => 84 | 3 => 3 | 4 => 4 | 46 => 107 | 5 => 5 | 9 => 9 | n => n, fun | n => n⟩
theorem Tryd.lays133 : Go.Proofs.Lays.n133 Tryd.prog Tryd.lays133_ren := {
  mixed := by kernel_rfl
  f128 := Tryd.func90.trans (congrArg some (by kernel_rfl))
  f133 := Tryd.func84.trans (congrArg some (by kernel_rfl))
  t3 := Tryd.underlying3
  a3 := Tryd.isAgg3
  z3 := Tryd.sizeOf3
  v3 := Tryd.zeroValue3
  t4 := Tryd.underlying4
  a4 := Tryd.isAgg4
  z4 := Tryd.sizeOf4
  v4 := Tryd.zeroValue4
  t5 := Tryd.underlying5
  a5 := Tryd.isAgg5
  z5 := Tryd.sizeOf5
  v5 := Tryd.zeroValue5
  t9 := Tryd.underlying9
  a9 := Tryd.isAgg9
  z9 := Tryd.sizeOf9
  v9 := Tryd.zeroValue9
  t46 := Tryd.underlying107
  a46 := Tryd.isAgg107
  z46 := Tryd.sizeOf107
  v46 := Tryd.zeroValue107
  t51 := Tryd.underlying84
  a51 := Tryd.isAgg84
  z51 := Tryd.sizeOf84
  v51 := Tryd.zeroValue84 }
/-- bits.LeadingZeros32: "LeadingZeros32 returns the number of leading zero bits in x; the result is 32 for x == 0.": IT RETURNS '32 - Lib.bitLen x'; the world is as it was. ITS CALLEE bits.Len32 IS MET BY ITS OWN CONTRACT OFF THE SHELF (lay that first): entered in place it sends the kernel out of memory. (LAID: no walk: one application.) -/
theorem Tryd.bits_LeadingZeros32 (x : Int) (w : World) (h0 : 0 ≤ x) (h1 : x ≤ 4294967295) :
    Calls Tryd.prog 84 #[.int .u32 x] w fun e w' => e = .returned (.int .i64 (32 - (Lib.bitLen x.toNat : Int))) ∧ w' = w := Any.bits_LeadingZeros32 Tryd.lays133 x w h0 h1
def Tryd.laysM171_ren : Go.Shelf.Ren := ⟨fun | 171 => 18 | 243 => 36 | 246 => 47 | 283 => 59 | 284 => 60 | 285 => 61 | 286 => 62 | 129 => 77 | 317 => 76 | 318 => 78 | 319 => 79 | 320 => 80 | 337 => 86 | 338 => 87 | n => n, fun | 3 => 3 | 9 => 9 | 2 => 2 | 4 => 4 | 171 => 101 | 0 => 0 | 53 => 71 | 37 => 35 | 5 => 5 | 173 => 104 | 212 => 122 | 51 => 84 | 20 => 20 | 213 => 123 | 46 => 107 | 232 => 132 | 233 => 133 | n => n, fun | 17 => 1 | 18 => 2 | 19 => 3 | n => n⟩
theorem Tryd.laysM171 : Go.Proofs.LaysM.n171 Tryd.prog Tryd.laysM171_ren := {
  mixed := by kernel_rfl
  f129 := Tryd.func77.trans (congrArg some (by kernel_rfl))
  f171 := Tryd.func18.trans (congrArg some (by kernel_rfl))
  f243 := Tryd.func36.trans (congrArg some (by kernel_rfl))
  f246 := Tryd.func47.trans (congrArg some (by kernel_rfl))
  f283 := Tryd.func59.trans (congrArg some (by kernel_rfl))
  f284 := Tryd.func60.trans (congrArg some (by kernel_rfl))
  f285 := Tryd.func61.trans (congrArg some (by kernel_rfl))
  f286 := Tryd.func62.trans (congrArg some (by kernel_rfl))
  f317 := Tryd.func76.trans (congrArg some (by kernel_rfl))
  f318 := Tryd.func78.trans (congrArg some (by kernel_rfl))
  f319 := Tryd.func79.trans (congrArg some (by kernel_rfl))
  f320 := Tryd.func80.trans (congrArg some (by kernel_rfl))
  f337 := Tryd.func86.trans (congrArg some (by kernel_rfl))
  f338 := Tryd.func87.trans (congrArg some (by kernel_rfl))
  t0 := Tryd.underlying0
  a0 := Tryd.isAgg0
  z0 := Tryd.sizeOf0
  v0 := Tryd.zeroValue0
  t2 := Tryd.underlying2
  a2 := Tryd.isAgg2
  z2 := Tryd.sizeOf2
  v2 := Tryd.zeroValue2
  t3 := Tryd.underlying3
  a3 := Tryd.isAgg3
  z3 := Tryd.sizeOf3
  v3 := Tryd.zeroValue3
  t4 := Tryd.underlying4
  a4 := Tryd.isAgg4
  z4 := Tryd.sizeOf4
  v4 := Tryd.zeroValue4
  t5 := Tryd.underlying5
  a5 := Tryd.isAgg5
  z5 := Tryd.sizeOf5
  v5 := Tryd.zeroValue5
  t9 := Tryd.underlying9
  a9 := Tryd.isAgg9
  z9 := Tryd.sizeOf9
  v9 := Tryd.zeroValue9
  t20 := Tryd.underlying20
  a20 := Tryd.isAgg20
  z20 := Tryd.sizeOf20
  v20 := Tryd.zeroValue20
  t37 := Tryd.underlying35
  a37 := Tryd.isAgg35
  z37 := Tryd.sizeOf35
  v37 := Tryd.zeroValue35
  t46 := Tryd.underlying107
  a46 := Tryd.isAgg107
  z46 := Tryd.sizeOf107
  v46 := Tryd.zeroValue107
  t51 := Tryd.underlying84
  a51 := Tryd.isAgg84
  z51 := Tryd.sizeOf84
  v51 := Tryd.zeroValue84
  t53 := Tryd.underlying71
  a53 := Tryd.isAgg71
  z53 := Tryd.sizeOf71
  v53 := Tryd.zeroValue71
  t171 := Tryd.underlying101
  a171 := Tryd.isAgg101
  z171 := Tryd.sizeOf101
  v171 := Tryd.zeroValue101
  t173 := Tryd.underlying104
  a173 := Tryd.isAgg104
  z173 := Tryd.sizeOf104
  v173 := Tryd.zeroValue104
  t212 := Tryd.underlying122
  a212 := Tryd.isAgg122
  z212 := Tryd.sizeOf122
  v212 := Tryd.zeroValue122
  t213 := Tryd.underlying123
  a213 := Tryd.isAgg123
  z213 := Tryd.sizeOf123
  t232 := Tryd.underlying132
  a232 := Tryd.isAgg132
  z232 := Tryd.sizeOf132
  v232 := Tryd.zeroValue132
  t233 := Tryd.underlying133
  a233 := Tryd.isAgg133
  z233 := Tryd.sizeOf133
  v233 := Tryd.zeroValue133
  g17 := by kernel_rfl
  g18 := by kernel_rfl
  g19 := by kernel_rfl
  i0 := by kernel_rfl
  i2 := by kernel_rfl
  i3 := by kernel_rfl
  i4 := by kernel_rfl
  i5 := by kernel_rfl
  i9 := by kernel_rfl
  i20 := by kernel_rfl
  i37 := by kernel_rfl
  i46 := by kernel_rfl
  i51 := by kernel_rfl
  i53 := by kernel_rfl
  i171 := by kernel_rfl
  i173 := by kernel_rfl
  i212 := by kernel_rfl
  i232 := by kernel_rfl
  i233 := by kernel_rfl
  m17 := by kernel_rfl
  m18 := by kernel_rfl
  m19 := by kernel_rfl }
open Go.RowKit Go.Sort Go.Lib in
/-- strconv.Itoa: "Itoa is equivalent to FormatInt(int64(i), 10).": i's DECIMAL NUMERAL ('Lib.itoa': a '-' where i is negative, then the digits), FOR EVERY int. The world behind the call: the world before it, new blocks behind the heap (the library's 'var a [24]byte'), draws. (LAID: no walk: one application.) -/
theorem Tryd.strconv_Itoa (n : Int) (h0 : -9223372036854775808 ≤ n) (h1 : n ≤ 9223372036854775807) (w : World) (htab : Lib.TabIs Tryd.prog w "internal/strconv.uint64pow10" .u64 Lib.pow10Tab) :
    Calls Tryd.prog 18 #[.int .i64 n] w fun e w' => e = .returned (.string ⟨(Lib.itoa n).toArray⟩) ∧ ∃ k os, w' = grow (w.drewN k) os := Any.strconv_Itoa Tryd.laysM171 n h0 h1 w htab
end Go.Proofs
end
