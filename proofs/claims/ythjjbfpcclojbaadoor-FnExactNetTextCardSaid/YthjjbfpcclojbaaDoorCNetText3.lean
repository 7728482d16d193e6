/- Texts of one proof, one behind the other: each tells what it proves. -/
import Derived.Test.YthjjbfpcclojbaaDoorCNetText2

section
/- Functions that write what they are handed, and hand out memory of their own. No condition. -/
set_option linter.unusedVariables false
set_option linter.unusedSimpArgs false
namespace Go.Proofs.YthjjbfpcclojbaaDoor.Pv
open Go.RowKit
def mapO {α β : Type} (f : α → Option β) : List α → Option (List β)
  | [] => some []
  | x :: r => match f x, mapO f r with
    | some y, some q => some (y :: q)
    | _, _ => none
theorem mapO_len {α β : Type} {f : α → Option β} : ∀ {l : List α} {q : List β}, mapO f l = some q → q.length = l.length
  | [], q, h => by cases h; rfl
  | x :: r, q, h => by
    unfold mapO at h
    split at h
    · rename_i y p h1 h2
      cases h
      simp [mapO_len h2]
    · cases h
theorem mapO_get {α β : Type} {f : α → Option β} : ∀ {l : List α} {q : List β}, mapO f l = some q → ∀ (i : Nat) x, l[i]? = some x → ∃ y, f x = some y ∧ q[i]? = some y
  | [], q, h, i, x, hx => by cases hx
  | a :: r, q, h, i, x, hx => by
    unfold mapO at h
    split at h
    · rename_i y p h1 h2
      cases h
      cases i with
      | zero => cases hx; exact ⟨y, h1, rfl⟩
      | succ i => exact mapO_get h2 i x hx
    · cases h
theorem mapO_back {α β : Type} {f : α → Option β} {l : List α} {q : List β} (h : mapO f l = some q) (i : Nat) (y : β) (hy : q[i]? = some y) : ∃ x, l[i]? = some x ∧ f x = some y := by
  have hi : i < l.length := by rw [← mapO_len h]; exact (List.getElem?_eq_some_iff.1 hy).1
  obtain ⟨y', h1, h2⟩ := mapO_get h i l[i] (List.getElem?_eq_getElem hi)
  rw [h2] at hy
  cases hy
  exact ⟨l[i], List.getElem?_eq_getElem hi, h1⟩
/-- Blocks by other numbers. -/
def renS (f : Nat → Nat) : S → Option S
  | .d x => some (.d x)
  | .sl b off len top => some (.sl (f b) off len top)
  | .pt b i j top => some (.pt (f b) i j top)
  | .sp c => some (.sp c)
  | .fn _ _ _ => none
  | .mp b => some (.mp (f b))
def renH (f : Nat → Nat) : HB → Option HB
  | .c el sz rows => match mapO (mapO (renS f)) rows with
    | some q => some (.c el sz q)
    | none => none
  | .p el sz rows => some (.p el sz rows)
  | .dead => some .dead
def renV (f : Nat → Nat) : V → Option V
  | .p ag ds => some (.p ag ds)
  | .o ag ss => match mapO (renS f) ss with
    | some q => some (.o ag q)
    | none => none
  | .un => some .un
def renX (f : Nat → Nat) : X → Option X
  | .one v => match renV f v with
    | some u => some (.one u)
    | none => none
  | .tup vs => match mapO (renV f) vs with
    | some us => some (.tup us)
    | none => none
/-- Without memory behind it. -/
def FlatD : D → Prop
  | .v _ => True
  | _ => False
def FlatS : S → Prop
  | .d x => FlatD x
  | .sp _ => False
  | _ => True
def FlatH : HB → Prop
  | .c _ _ rows => ∀ r ∈ rows, ∀ x ∈ r, FlatS x
  | .p _ _ rows => ∀ r ∈ rows, ∀ x ∈ r, FlatD x
  | .dead => True
def FlatV : V → Prop
  | .p _ ds => ∀ x ∈ ds, FlatD x
  | .o _ ss => ∀ x ∈ ss, FlatS x
  | .un => True
def FlatX : X → Prop
  | .one v => FlatV v
  | .tup vs => ∀ v ∈ vs, FlatV v
section
variable {e e' : E} {f : Nat → Nat}
theorem RelD.flat {m m' : M} {d : D} {v : Value} (h : RelD m d v) (hf : m.Le m' ∨ FlatD d) : RelD m' d v := by
  rcases hf with hf | hf
  · exact h.mono hf
  · cases h with
    | v _ h => exact .v _ h
    | nil => exact hf.elim
    | li => exact hf.elim
    | ic => exact hf.elim
theorem RelS.push (hc : ∀ (i : Nat) k, e.cur[i]? = some k → e'.cur[f i]? = some k) {s s' : S} {v : Value} (hm : e.toM.Le e'.toM ∨ FlatS s) (h : RelS e s v) (hr : renS f s = some s') : RelS e' s' v := by
  cases h with
  | d x v h => cases hr; exact .d _ _ (h.flat hm)
  | sl b off len top a c k hk ht hv hl => cases hr; exact .sl _ off len top a c k (hc b k hk) ht hv hl
  | pt b i j top a k hk ht hv => cases hr; exact .pt _ i j top a k (hc b k hk) ht hv
  | sp cells blk off vs hok hcl hrl =>
    cases hr
    rcases hm with hm | hm
    · exact RelS.mono (e := ⟨e.toM, []⟩) (e' := ⟨e'.toM, e'.cur⟩) ⟨hm, fun i k hk => by cases hk⟩ (.sp cells blk off vs hok hcl hrl)
    · exact hm.elim
  | fn => cases hr
  | mp b k r hk ht hv => cases hr; exact .mp _ k r (hc b k hk) ht hv
theorem RelS.pull (hc : ∀ (i : Nat) k, e'.cur[f i]? = some k → e.cur[i]? = some k) (hm : e'.toM.Le e.toM) {s s' : S} {v : Value} (h : RelS e' s' v) (hr : renS f s = some s') : RelS e s v := by
  cases s with
  | d x => cases hr; cases h with | d _ _ h => exact .d _ _ (h.mono hm)
  | sl b off len top => cases hr; cases h with | sl _ _ _ _ a c k hk ht hv hl => exact .sl b off len top a c k (hc b k hk) ht hv hl
  | pt b i j top => cases hr; cases h with | pt _ _ _ _ a k hk ht hv => exact .pt b i j top a k (hc b k hk) ht hv
  | sp cells =>
    cases hr
    cases h with
    | sp _ blk off vs hok hcl hrl => exact RelS.mono (e := ⟨e'.toM, []⟩) (e' := ⟨e.toM, e.cur⟩) ⟨hm, fun i k hk => by cases hk⟩ (.sp cells blk off vs hok hcl hrl)
  | fn => cases hr
  | mp b => cases hr; cases h with | mp _ k r hk ht hv => exact .mp b k r (hc b k hk) ht hv
theorem cell_ren {rows rows' : List (List S)} (h : mapO (mapO (renS f)) rows = some rows') {i j : Nat} {s : S} (hs : cellAt rows i j = some s) : ∃ s', renS f s = some s' ∧ cellAt rows' i j = some s' := by
  unfold cellAt at hs ⊢
  obtain ⟨r, h1, h2⟩ := Option.bind_eq_some_iff.1 hs
  obtain ⟨r', h3, h4⟩ := mapO_get h i r h1
  obtain ⟨s', h5, h6⟩ := mapO_get h3 j s h2
  exact ⟨s', h5, by rw [h4]; exact h6⟩
theorem cell_ren_back {rows rows' : List (List S)} (h : mapO (mapO (renS f)) rows = some rows') {i j : Nat} {s' : S} (hs : cellAt rows' i j = some s') : ∃ s, renS f s = some s' ∧ cellAt rows i j = some s := by
  unfold cellAt at hs ⊢
  obtain ⟨r', h1, h2⟩ := Option.bind_eq_some_iff.1 hs
  obtain ⟨r, h3, h4⟩ := mapO_back h i r' h1
  obtain ⟨s, h5, h6⟩ := mapO_back h4 j s' h2
  exact ⟨s, h6, by rw [h3]; exact h5⟩
theorem row_len {rows rows' : List (List S)} (h : mapO (mapO (renS f)) rows = some rows') {n : Nat} : (∀ r ∈ rows, r.length = n) ↔ ∀ r ∈ rows', r.length = n := by
  constructor
  · intro hl r hr
    obtain ⟨i, hi⟩ := List.getElem?_of_mem hr
    obtain ⟨q, h1, h2⟩ := mapO_back h i r hi
    rw [mapO_len h2]
    exact hl q (List.mem_of_getElem? h1)
  · intro hl r hr
    obtain ⟨i, hi⟩ := List.getElem?_of_mem hr
    obtain ⟨q, h1, h2⟩ := mapO_get h i r hi
    rw [← mapO_len h1]
    exact hl q (List.mem_of_getElem? h2)
theorem HRel.push (hc : ∀ (i : Nat) k, e.cur[i]? = some k → e'.cur[f i]? = some k) (hw : e'.w = e.w) {h h' : HB} {k : K} (hm : e.toM.Le e'.toM ∨ FlatH h) (hr : renH f h = some h') (hh : HRel e k h) : HRel e' k h' := by
  cases h with
  | c el sz rows =>
    simp only [renH] at hr
    split at hr
    · rename_i q hq
      cases hr
      have hh : Lies e k el sz rows := hh
      have hl := mapO_len hq
      refine (⟨hh.live, hh.size, by rw [hl]; exact hh.top, (row_len hq).1 hh.len, fun hmm => ?_, fun hmm => ?_, fun h1 hm' => by rw [hw, hl]; exact hh.fix h1 hm'⟩ : Lies e' k el sz q)
      · obtain ⟨g1, g2, g3, arr, g4, g5, g6⟩ := hh.mat hmm
        rw [hw, hl]
        refine ⟨g1, g2, g3, arr, g4, g5, fun i j s' hs => ?_⟩
        obtain ⟨s, h1, h2⟩ := cell_ren_back hq hs
        obtain ⟨v, h3, h4⟩ := g6 i j s h2
        refine ⟨v, h3, h4.push hc (hm.imp id fun hf => ?_) h1⟩
        unfold cellAt at h2
        obtain ⟨r, h5, h6⟩ := Option.bind_eq_some_iff.1 h2
        exact hf r (List.mem_of_getElem? h5) s (List.mem_of_getElem? h6)
      · have := hh.nil hmm
        subst this
        cases hq
        rfl
    · cases hr
  | p el sz rows =>
    cases hr
    have hh : Lies e k el sz (rows.map (·.map .d)) := hh
    refine (⟨hh.live, hh.size, hh.top, hh.len, fun hmm => ?_, hh.nil, fun h1 hm' => by rw [hw]; exact hh.fix h1 hm'⟩ : Lies e' k el sz (rows.map (·.map .d)))
    obtain ⟨g1, g2, g3, arr, g4, g5, g6⟩ := hh.mat hmm
    rw [hw]
    refine ⟨g1, g2, g3, arr, g4, g5, fun i j s hs => ?_⟩
    obtain ⟨v, h3, h4⟩ := g6 i j s hs
    refine ⟨v, h3, ?_⟩
    rw [cellAt_map] at hs
    obtain ⟨d, hd, rfl⟩ := Option.map_eq_some_iff.1 hs
    cases h4 with
    | d _ _ h4 =>
    refine .d _ _ (h4.flat (hm.imp id fun hf => ?_))
    unfold cellAt at hd
    obtain ⟨r, h5, h6⟩ := Option.bind_eq_some_iff.1 hd
    exact hf r (List.mem_of_getElem? h5) d (List.mem_of_getElem? h6)
  | dead => cases hr; exact hh
theorem HRel.pull (hc : ∀ (i : Nat) k, e'.cur[f i]? = some k → e.cur[i]? = some k) (hm : e'.toM.Le e.toM) (hw : e'.w = e.w) {h h' : HB} {k : K} (hr : renH f h = some h') (hh : HRel e' k h') : HRel e k h := by
  cases h with
  | c el sz rows =>
    simp only [renH] at hr
    split at hr
    · rename_i q hq
      cases hr
      have hh : Lies e' k el sz q := hh
      have hl := mapO_len hq
      refine (⟨hh.live, hh.size, by rw [← hl]; exact hh.top, (row_len hq).2 hh.len, fun hmm => ?_, fun hmm => ?_, fun h1 hm' => by rw [← hw, ← hl]; exact hh.fix h1 hm'⟩ : Lies e k el sz rows)
      · obtain ⟨g1, g2, g3, arr, g4, g5, g6⟩ := hh.mat hmm
        rw [← hw, ← hl]
        refine ⟨g1, g2, g3, arr, g4, g5, fun i j s hs => ?_⟩
        obtain ⟨s', h1, h2⟩ := cell_ren hq hs
        obtain ⟨v, h3, h4⟩ := g6 i j s' h2
        exact ⟨v, h3, h4.pull hc hm h1⟩
      · have := hh.nil hmm
        subst this
        cases rows with
        | nil => rfl
        | cons a r => simp at hl
    · cases hr
  | p el sz rows =>
    cases hr
    have hh : Lies e' k el sz (rows.map (·.map .d)) := hh
    refine (⟨hh.live, hh.size, hh.top, hh.len, fun hmm => ?_, hh.nil, fun h1 hm' => by rw [← hw]; exact hh.fix h1 hm'⟩ : Lies e k el sz (rows.map (·.map .d)))
    obtain ⟨g1, g2, g3, arr, g4, g5, g6⟩ := hh.mat hmm
    rw [← hw]
    refine ⟨g1, g2, g3, arr, g4, g5, fun i j s hs => ?_⟩
    obtain ⟨v, h3, h4⟩ := g6 i j s hs
    refine ⟨v, h3, ?_⟩
    rw [cellAt_map] at hs
    obtain ⟨d, hd, rfl⟩ := Option.map_eq_some_iff.1 hs
    cases h4 with
    | d _ _ h4 => exact .d _ _ (h4.mono hm)
  | dead => cases hr; exact hh
theorem RelSL.push (hc : ∀ (i : Nat) k, e.cur[i]? = some k → e'.cur[f i]? = some k) {s s' : List S} {v : List Value} (hm : e.toM.Le e'.toM ∨ ∀ x ∈ s, FlatS x) (h : RelSL e s v) (hr : mapO (renS f) s = some s') : RelSL e' s' v := by
  refine ⟨(mapO_len hr).trans h.1, fun i y u hy hu => ?_⟩
  obtain ⟨x, h1, h2⟩ := mapO_back hr i y hy
  exact (h.2 i x u h1 hu).push hc (hm.imp id fun hf => hf x (List.mem_of_getElem? h1)) h2
theorem RelSL.pull (hc : ∀ (i : Nat) k, e'.cur[f i]? = some k → e.cur[i]? = some k) (hm : e'.toM.Le e.toM) {s s' : List S} {v : List Value} (h : RelSL e' s' v) (hr : mapO (renS f) s = some s') : RelSL e s v := by
  refine ⟨(mapO_len hr).symm.trans h.1, fun i x u hx hu => ?_⟩
  obtain ⟨y, h1, h2⟩ := mapO_get hr i x hx
  exact (h.2 i y u h2 hu).pull hc hm h1
theorem RelV.push (hc : ∀ (i : Nat) k, e.cur[i]? = some k → e'.cur[f i]? = some k) {x x' : V} {v : Value} (hm : e.toM.Le e'.toM ∨ FlatV x) (h : RelV e x v) (hr : renV f x = some x') : RelV e' x' v := by
  cases x with
  | p ag ds =>
    cases hr
    obtain ⟨vs, h1, h2⟩ := h
    exact ⟨vs, ⟨h1.1, fun i d u hd hu => (h1.2 i d u hd hu).flat (hm.imp id fun hf => hf d (List.mem_of_getElem? hd))⟩, h2⟩
  | o ag ss =>
    simp only [renV] at hr
    split at hr
    · rename_i q hq
      cases hr
      obtain ⟨vs, h1, h2⟩ := h
      exact ⟨vs, h1.push hc hm hq, h2⟩
    · cases hr
  | un => cases hr; trivial
theorem RelV.pull (hc : ∀ (i : Nat) k, e'.cur[f i]? = some k → e.cur[i]? = some k) (hm : e'.toM.Le e.toM) {x x' : V} {v : Value} (h : RelV e' x' v) (hr : renV f x = some x') : RelV e x v := by
  cases x with
  | p ag ds =>
    cases hr
    obtain ⟨vs, h1, h2⟩ := h
    exact ⟨vs, h1.mono hm, h2⟩
  | o ag ss =>
    simp only [renV] at hr
    split at hr
    · rename_i q hq
      cases hr
      obtain ⟨vs, h1, h2⟩ := h
      exact ⟨vs, h1.pull hc hm hq, h2⟩
    · cases hr
  | un => trivial
theorem RelX.push (hc : ∀ (i : Nat) k, e.cur[i]? = some k → e'.cur[f i]? = some k) {x x' : X} {v : Value} (hm : e.toM.Le e'.toM ∨ FlatX x) (h : RelX e x v) (hr : renX f x = some x') : RelX e' x' v := by
  cases x with
  | one x =>
    simp only [renX] at hr
    split at hr
    · rename_i u hu
      cases hr
      exact RelV.push hc hm h hu
    · cases hr
  | tup xs =>
    simp only [renX] at hr
    split at hr
    · rename_i us hu
      cases hr
      obtain ⟨vs, h1, h2, h3⟩ := h
      refine ⟨vs, h1, (mapO_len hu).trans h2, fun i y u hy hu' => ?_⟩
      obtain ⟨x, h4, h5⟩ := mapO_back hu i y hy
      exact RelV.push hc (hm.imp id fun hf => hf x (List.mem_of_getElem? h4)) (h3 i x u h4 hu') h5
    · cases hr
theorem RelX.pull (hc : ∀ (i : Nat) k, e'.cur[f i]? = some k → e.cur[i]? = some k) (hm : e'.toM.Le e.toM) {x x' : X} {v : Value} (h : RelX e' x' v) (hr : renX f x = some x') : RelX e x v := by
  cases x with
  | one x =>
    simp only [renX] at hr
    split at hr
    · rename_i u hu
      cases hr
      exact RelV.pull hc hm h hu
    · cases hr
  | tup xs =>
    simp only [renX] at hr
    split at hr
    · rename_i us hu
      cases hr
      obtain ⟨vs, h1, h2, h3⟩ := h
      refine ⟨vs, h1, (mapO_len hu).symm.trans h2, fun i x u hx hu' => ?_⟩
      obtain ⟨y, h4, h5⟩ := mapO_get hu i x hx
      exact RelV.pull hc hm (h3 i y u h5 hu') h4
    · cases hr
end
/-- The numbers of blocks handed over; those made anew stand behind. -/
def sg : List Nat → Nat → Nat → Nat
  | a :: _, _, 0 => a
  | _ :: r, n, i + 1 => sg r n i
  | [], n, i => n + i
def place {α : Type} (H : List α) : List Nat → List α → List α
  | [], l => H ++ l
  | i :: r, a :: l => place (H.set i a) r l
  | _ :: _, [] => H
theorem sg_lt : ∀ {ids : List Nat} {n i : Nat} (h : i < ids.length), sg ids n i = ids[i]
  | a :: r, n, 0, h => rfl
  | a :: r, n, i + 1, h => by
    rw [sg, sg_lt (by simpa using h)]
    rfl
theorem sg_ge : ∀ {ids : List Nat} {n i : Nat}, ids.length ≤ i → sg ids n i = n + (i - ids.length)
  | [], n, i, h => rfl
  | a :: r, n, 0, h => by simp at h
  | a :: r, n, i + 1, h => by
    rw [sg, sg_ge (by simpa using h)]
    simp
theorem place_len {α : Type} : ∀ {H : List α} {ids : List Nat} {l : List α}, ids.length ≤ l.length → (place H ids l).length + ids.length = H.length + l.length
  | H, [], l, h => by simp [place]
  | H, i :: r, a :: l, h => by
    have := place_len (H := H.set i a) (ids := r) (l := l) (by simpa using h)
    simp [place] at this ⊢
    omega
  | H, i :: r, [], h => by simp at h
theorem place_other {α : Type} : ∀ {H : List α} {ids : List Nat} {l : List α} {x : Nat}, x < H.length → x ∉ ids → (place H ids l)[x]? = H[x]?
  | H, [], l, x, h, hx => by rw [place, List.getElem?_append_left h]
  | H, i :: r, a :: l, x, h, hx => by
    rw [List.mem_cons, not_or] at hx
    rw [place, place_other (by simpa using h) hx.2, List.getElem?_set_ne (fun e => hx.1 e.symm)]
  | H, i :: r, [], x, h, hx => rfl
theorem place_sg {α : Type} : ∀ {H : List α} {ids : List Nat} {l : List α} {j : Nat}, ids.Nodup → (∀ i ∈ ids, i < H.length) → ids.length ≤ l.length → (place H ids l)[sg ids H.length j]? = l[j]?
  | H, [], l, j, hn, hi, hl => by
    rw [place, sg_ge (by simp)]
    simp only [List.length_nil, Nat.sub_zero]
    rw [List.getElem?_append_right (by omega)]
    congr 1
    omega
  | H, i :: r, a :: l, 0, hn, hi, hl => by
    rw [List.nodup_cons] at hn
    have h1 := hi i (by simp)
    rw [place, sg, place_other (by simpa using h1) hn.1]
    simp [h1]
  | H, i :: r, a :: l, j + 1, hn, hi, hl => by
    rw [List.nodup_cons] at hn
    have := place_sg (H := H.set i a) (ids := r) (l := l) (j := j) hn.2 (fun k hk => by simpa using hi k (by simp [hk])) (by simpa using hl)
    rw [List.length_set] at this
    rw [place, sg, this]
    rfl
  | H, i :: r, [], j, hn, hi, hl => by simp at hl
theorem place_cases {α : Type} {H : List α} {ids : List Nat} {l : List α} (hn : ids.Nodup) (hi : ∀ i ∈ ids, i < H.length) (hl : ids.length ≤ l.length) {x : Nat} {y : α} (h : (place H ids l)[x]? = some y) :
    (∃ j, x = sg ids H.length j ∧ l[j]? = some y) ∨ (x < H.length ∧ x ∉ ids ∧ H[x]? = some y) := by
  by_cases hx : x ∈ ids
  · obtain ⟨j, hj, rfl⟩ := List.getElem_of_mem hx
    refine .inl ⟨j, (sg_lt hj).symm, ?_⟩
    rw [← place_sg (j := j) hn hi hl, sg_lt hj]
    exact h
  · by_cases hlt : x < H.length
    · exact .inr ⟨hlt, hx, by rw [← place_other hlt hx]; exact h⟩
    · have e : x = sg ids H.length (ids.length + (x - H.length)) := by rw [sg_ge (by omega)]; omega
      refine .inl ⟨_, e, ?_⟩
      rw [← place_sg hn hi hl, ← e]
      exact h
/-- A function that may write the blocks handed over; own: what it gives back holds no old memory. -/
structure ConC where
  G : Type
  pre : G → Prop
  H0 : G → List HB
  args : G → List X
  H1 : G → List HB
  res : G → X
  own : Bool
def argsX (e : E) (xs : List X) (vs : List Value) : Prop := xs.length = vs.length ∧ ∀ (i : Nat) x v, xs[i]? = some x → vs[i]? = some v → RelX e x v
def wrOf (cur : List K) (k : Nat) : Prop := ∃ q ∈ cur, q.live = true ∧ q.mat = true ∧ q.blk = k
def ValidC (P : Program) (f : FuncId) (c : ConC) : Prop := FnOk P f ∧
  ∀ (g : c.G), c.pre g → (c.own = true → FlatX (c.res g) ∧ ∀ h ∈ c.H1 g, FlatH h) ∧ (c.H0 g).length ≤ (c.H1 g).length ∧
    ∀ (b : B) (cur : List K) (tk : Nat × Nat → Option Nat) (w : World) (vs : List Value), b.w0 = w → b.c0 = cur → b.wr = wrOf cur → SimC b cur tk ⟨[], c.H0 g, 0, 0, (c.H0 g).length⟩ ⟨#[], []⟩ w → argsX (env b cur tk w) (c.args g) vs →
      Calls P f vs.toArray w fun e w' => ∃ v cur' tk', e = .returned v ∧ SimC b cur' tk' ⟨[], c.H1 g, 0, 0, (c.H0 g).length⟩ ⟨#[], []⟩ w' ∧ RelX (env b cur' tk' w') (c.res g) v
/-- An argument: by its blocks, or as data. -/
inductive ArgC (f : Nat → Nat) (h : Nat → Option HB) (own : Bool) : X → X → Prop
  | same (x y : X) (hr : renX f y = some x) : ArgC f h own x y
  | data (x : X) (d : Bool × List D) (hd : ArgLe h own x d) : ArgC f h own x (.one (.p d.1 d.2))
inductive ArgsC (f : Nat → Nat) (h : Nat → Option HB) (own : Bool) : List X → List X → Prop
  | nil : ArgsC f h own [] []
  | cons {x y : X} {xs ys : List X} : ArgC f h own x y → ArgsC f h own xs ys → ArgsC f h own (x :: xs) (y :: ys)
theorem ArgsC.get {f : Nat → Nat} {h : Nat → Option HB} {own : Bool} : ∀ {xs ys : List X}, ArgsC f h own xs ys → xs.length = ys.length ∧ ∀ (i : Nat) y, ys[i]? = some y → ∃ x, xs[i]? = some x ∧ ArgC f h own x y
  | _, _, .nil => ⟨rfl, fun i y h => by cases h⟩
  | _, _, .cons hx hxs => by
    obtain ⟨h1, h2⟩ := hxs.get
    refine ⟨by simp [h1], fun i y hy => ?_⟩
    cases i with
    | zero => cases hy; exact ⟨_, rfl, hx⟩
    | succ i => exact h2 i y hy
/-- The blocks that are not handed over. -/
def hid (ids : List Nat) (H : List HB) (i : Nat) : Option HB := cond (ids.elem i) none H[i]?
/-- The blocks handed over are as the function has them. -/
def Emb (f : Nat → Nat) (H : List HB) (ids : List Nat) (Hs : List HB) : Prop := ∃ Hs', mapO (renH f) Hs = some Hs' ∧ ids.map (fun i => H[i]?) = Hs'.map some
theorem Emb.of {f : Nat → Nat} {H : List HB} {ids : List Nat} {Hs : List HB} (h : (mapO (renH f) Hs).map (·.map some) = some (ids.map fun i => H[i]?)) : Emb f H ids Hs := by
  obtain ⟨Hs', h1, h2⟩ := Option.map_eq_some_iff.1 h
  exact ⟨Hs', h1, h2.symm⟩
theorem Emb.get {f : Nat → Nat} {H : List HB} {ids : List Nat} {Hs : List HB} (h : Emb f H ids Hs) : ids.length = Hs.length ∧ ∀ (i : Nat) (hb : HB), Hs[i]? = some hb → ∃ j hb', ids[i]? = some j ∧ renH f hb = some hb' ∧ H[j]? = some hb' := by
  obtain ⟨Hs', h1, h2⟩ := h
  have hl := mapO_len h1
  have hl2 : ids.length = Hs'.length := by simpa using congrArg List.length h2
  refine ⟨by omega, fun i hb hi => ?_⟩
  obtain ⟨hb', h3, h4⟩ := mapO_get h1 i hb hi
  have hlt : i < ids.length := by rw [hl2]; exact (List.getElem?_eq_some_iff.1 h4).1
  have h5 := congrArg (fun l => l[i]?) h2
  simp only [List.getElem?_map, List.getElem?_eq_getElem hlt, Option.map_some, h4, Option.some.injEq] at h5
  exact ⟨ids[i], hb', List.getElem?_eq_getElem hlt, h3, h5⟩
section
variable {b : B} {cur : List K} {tk : Nat × Nat → Option Nat} {s : St} {a : Act} {w : World} {P : Program}
theorem ids_lt {f : Nat → Nat} {H : List HB} {ids : List Nat} {Hs : List HB} (h : Emb f H ids Hs) : ∀ i ∈ ids, i < H.length := by
  intro i hi
  obtain ⟨j, hj, rfl⟩ := List.getElem_of_mem hi
  obtain ⟨g1, g2⟩ := h.get
  obtain ⟨i', hb', h1, _, h3⟩ := g2 j Hs[j] (List.getElem?_eq_getElem (by omega))
  rw [List.getElem?_eq_getElem hj] at h1
  cases h1
  exact (List.getElem?_eq_some_iff.1 h3).1
/-- Chosen blocks by themselves. -/
def pickK (cur : List K) (ids : List Nat) : List K := ids.map fun i => (cur[i]?).getD K.none
theorem pickK_get {ids : List Nat} (h : ∀ i ∈ ids, i < cur.length) {j : Nat} (hj : j < ids.length) : (pickK cur ids)[j]? = cur[ids[j]]? := by
  have := h _ (List.getElem_mem hj)
  simp [pickK, hj, this]
theorem pickK_mem {ids : List Nat} (h : ∀ i ∈ ids, i < cur.length) {q : K} (hq : q ∈ pickK cur ids) : ∃ i ∈ ids, cur[i]? = some q := by
  obtain ⟨i, hi, rfl⟩ := List.mem_map.1 hq
  refine ⟨i, hi, ?_⟩
  simp [h i hi]
theorem pick_sg {ids : List Nat} (h : ∀ i ∈ ids, i < cur.length) {i : Nat} {k : K} (hk : cur[sg ids cur.length i]? = some k) : (pickK cur ids)[i]? = some k := by
  by_cases hi : i < ids.length
  · rw [pickK_get h hi, ← sg_lt hi (n := cur.length)]
    exact hk
  · rw [sg_ge (by omega)] at hk
    have := (List.getElem?_eq_some_iff.1 hk).1
    omega
def giveB (b : B) (cur : List K) (w : World) (own : Bool) (ids : List Nat) : B := ⟨w, b.base, fun k => k < w.heap.size ∧ (own = true ∨ okOf b cur w k), wrOf (pickK cur ids), pickK cur ids, 0⟩
/-- The state of the function called. -/
theorem SimC.give (h : SimC b cur tk s a w) {ids : List Nat} {Hs : List HB} (own : Bool) (hn : ids.Nodup) (he : Emb (sg ids s.H.length) s.H ids Hs) :
    SimC (giveB b cur w own ids) (pickK cur ids) (fun _ => none) ⟨[], Hs, 0, 0, Hs.length⟩ ⟨#[], []⟩ w := by
  have hlt : ∀ i ∈ ids, i < cur.length := by rw [h.len]; exact ids_lt he
  obtain ⟨g1, g2⟩ := he.get
  have hm : (mOf b cur tk w).Le (mOf (giveB b cur w own ids) (pickK cur ids) (fun _ => none) w) := by
    refine ⟨fun k hk => ⟨.inl ⟨hk.2.1, .inr hk⟩, hk.2.1, fun q hq hl hmm => ?_⟩, fun _ _ => rfl⟩
    obtain ⟨i, _, hi⟩ := pickK_mem hlt hq
    exact hk.2.2 q (List.mem_of_getElem? hi) hl hmm
  have hpl : (pickK cur ids).length = ids.length := by simp [pickK]
  refine ⟨Below.refl _ _, fun _ _ _ => rfl, Nat.le_trans h.bs h.bel.size, by simp [hpl, g1], fun i k hb hk hh => ?_, fun i j k q hi hj hkl hql hkm hqm e => ?_, fun q hq hl hmm => ?_, fun t => trivial, rfl, rfl, fun t u k h => (by cases h), fun t k h => (by cases h), Nat.le_refl _, fun k hk => hk.1,
    fun i k hk => ⟨k, hk, Nat.le_refl _, fun _ _ => rfl⟩, Nat.le_refl _, by show (pickK cur ids).length ≤ Hs.length; omega, h.iv.mono hm⟩
  · obtain ⟨j, hb', h1, h2, h3⟩ := g2 i hb hh
    have hi := (List.getElem?_eq_some_iff.1 h1).1
    rw [pickK_get hlt hi] at hk
    rw [List.getElem?_eq_getElem hi] at h1
    cases h1
    refine HRel.pull (e := env (giveB b cur w own ids) (pickK cur ids) (fun _ => none) w) (e' := env b cur tk w) (f := sg ids s.H.length) (fun i k hk => ?_) hm rfl h2 (h.heap _ k hb' hk h3)
    rw [← h.len] at hk
    exact pick_sg hlt hk
  · have hi' := (List.getElem?_eq_some_iff.1 hi).1
    have hj' := (List.getElem?_eq_some_iff.1 hj).1
    rw [hpl] at hi' hj'
    rw [pickK_get hlt hi'] at hi
    rw [pickK_get hlt hj'] at hj
    exact (List.getElem_inj hn).1 (h.inj _ _ k q hi hj hkl hql hkm hqm e)
  · obtain ⟨i, _, hi⟩ := pickK_mem hlt hq
    exact ⟨(h.own q (List.mem_of_getElem? hi) hl hmm).1, .inl ⟨q, hq, hl, hmm, rfl⟩⟩
/-- What the function called leaves, seen by the caller again. -/
theorem SimC.take (h : SimC b cur tk s a w) {ids : List Nat} {Hs H1 H1' : List HB} {own : Bool} {cur1 : List K} {tk1 : Nat × Nat → Option Nat} {w1 : World} (hn : ids.Nodup) (he : Emb (sg ids s.H.length) s.H ids Hs)
    (h1 : SimC (giveB b cur w own ids) cur1 tk1 ⟨[], H1, 0, 0, Hs.length⟩ ⟨#[], []⟩ w1) (hl : Hs.length ≤ H1.length) (hr : mapO (renH (sg ids s.H.length)) H1 = some H1') (hf : own = true → ∀ g ∈ H1, FlatH g) :
    SimC b (place cur ids cur1) tk { s with H := place s.H ids H1' } a w1 ∧
      ∀ (x x' : X) (v : Value), (own = true → FlatX x) → renX (sg ids s.H.length) x = some x' → RelX (env (giveB b cur w own ids) cur1 tk1 w1) x v → RelX (env b (place cur ids cur1) tk w1) x' v := by
  have hlt : ∀ i ∈ ids, i < cur.length := by rw [h.len]; exact ids_lt he
  have hltH : ∀ i ∈ ids, i < s.H.length := ids_lt he
  obtain ⟨g1, g2⟩ := he.get
  have hc1 : cur1.length = H1.length := h1.len
  have hlc : ids.length ≤ cur1.length := by omega
  have hr1 := mapO_len hr
  have hlH : ids.length ≤ H1'.length := by omega
  have wrc : ∀ k, wrOf (pickK cur ids) k → ∃ i ∈ ids, ∃ q, cur[i]? = some q ∧ q.live = true ∧ q.mat = true ∧ q.blk = k := by
    rintro k ⟨q, hq, h2, h3, h4⟩
    obtain ⟨i, h5, h6⟩ := pickK_mem hlt hq
    exact ⟨i, h5, q, h6, h2, h3, h4⟩
  have own1 : ∀ q ∈ cur1, q.live = true → q.mat = true → b.base ≤ q.blk ∧ ((∃ i ∈ ids, ∃ r, cur[i]? = some r ∧ r.live = true ∧ r.mat = true ∧ r.blk = q.blk) ∨ w.heap.size ≤ q.blk) := by
    intro q hq h2 h3
    obtain ⟨h4, h5⟩ := h1.own q hq h2 h3
    exact ⟨h4, h5.imp (wrc _) id⟩
  have frm : ∀ k, k < w.heap.size → (∀ i ∈ ids, ∀ q, cur[i]? = some q → q.live = true → q.mat = true → q.blk ≠ k) → w1.heap[k]? = w.heap[k]? := by
    intro k hk hh
    refine h1.frm k hk fun hw => ?_
    obtain ⟨i, h2, q, h3, h4, h5, h6⟩ := wrc k hw
    exact hh i h2 q h3 h4 h5 h6
  have frmOk : ∀ k, okOf b cur w k → w1.heap[k]? = w.heap[k]? := fun k hk => frm k hk.2.1 fun i _ q hq hl hm => hk.2.2 q (List.mem_of_getElem? hq) hl hm
  have memP : ∀ q ∈ place cur ids cur1, q ∈ cur1 ∨ ∃ x, x ∉ ids ∧ cur[x]? = some q := by
    intro q hq
    obtain ⟨x, hx⟩ := List.getElem?_of_mem hq
    rcases place_cases hn hlt hlc hx with ⟨j, _, h2⟩ | ⟨h2, h3, h4⟩
    · exact .inl (List.mem_of_getElem? h2)
    · exact .inr ⟨x, h3, h4⟩
  have szs : w.heap.size ≤ w1.heap.size := h1.bel.size
  have okP : ∀ k, okOf b cur w k → okOf b (place cur ids cur1) w1 k := by
    intro k hk
    refine ⟨hk.1, Nat.lt_of_lt_of_le hk.2.1 szs, fun q hq hl hm e => ?_⟩
    rcases memP q hq with hq | ⟨x, _, hq⟩
    · rcases (own1 q hq hl hm).2 with ⟨i, _, r, h3, h4, h5, h6⟩ | h3
      · exact hk.2.2 r (List.mem_of_getElem? h3) h4 h5 (by omega)
      · have := hk.2.1
        omega
    · exact hk.2.2 q (List.mem_of_getElem? hq) hl hm e
  have hcp : ∀ (i : Nat) k, cur1[i]? = some k → (place cur ids cur1)[sg ids s.H.length i]? = some k := by
    intro i k hk
    rw [← h.len, place_sg hn hlt hlc]
    exact hk
  have le : (env b cur tk w).Le (env b (place cur ids cur1) tk w1) := by
    refine ⟨⟨okP, frmOk⟩, fun i k hk => ?_⟩
    have hk : cur[i]? = some k := hk
    show ∃ k', (place cur ids cur1)[i]? = some k' ∧ _
    by_cases hi : i ∈ ids
    · obtain ⟨j, hj, rfl⟩ := List.getElem_of_mem hi
      obtain ⟨k', h2, h3, h4⟩ := h1.cm j k (by show (pickK cur ids)[j]? = some k; rw [pickK_get hlt hj]; exact hk)
      refine ⟨k', ?_, h3, h4⟩
      rw [← hcp j k' h2, sg_lt hj]
    · exact ⟨k, by rw [place_other (List.getElem?_eq_some_iff.1 hk).1 hi]; exact hk, Nat.le_refl _, fun _ _ => rfl⟩
  have hm1 : own = false → (mOf (giveB b cur w own ids) cur1 tk1 w1).Le (mOf b (place cur ids cur1) tk w1) := by
    intro ho
    refine ⟨fun k hk => ?_, fun _ _ => rfl⟩
    obtain ⟨h2, h3, h4⟩ := hk
    have h2 : (k < w.heap.size ∧ (own = true ∨ okOf b cur w k)) ∨ w.heap.size ≤ k := h2
    rcases h2 with ⟨_, h2 | h2⟩ | h2
    · rw [ho] at h2; cases h2
    · exact okP k h2
    · refine ⟨.inr (Nat.le_trans h.bel.size h2), h3, fun q hq hl hm e => ?_⟩
      rcases memP q hq with hq | ⟨x, _, hq⟩
      · exact h4 q hq hl hm e
      · have := (h.blk (List.mem_of_getElem? hq) hl hm).2
        omega
  have frmB : ∀ k, k < b.w0.heap.size → ¬b.wr k → w1.heap[k]? = b.w0.heap[k]? := by
    intro k hk hw
    refine (frm k (Nat.lt_of_lt_of_le hk h.bel.size) fun i _ q hq hl hm e => ?_).trans (h.frm k hk hw)
    rcases (h.own q (List.mem_of_getElem? hq) hl hm).2 with h2 | h2
    · exact hw (by rw [← e]; exact h2)
    · omega
  refine ⟨⟨h.bel.trans h1.bel, frmB, h.bs, ?_, fun i k g hk hg => ?_, fun i j k q hi hj hkl hql hkm hqm e => ?_, fun q hq hl hm => ?_, fun t => (h.tmp t).mono le, h.size, h.dfr, h.tkI, fun t k ht => ?_, h.nm, h.ok0, cm_trans h.cm (fun i k _ hk => le.cur i k hk), ?_, h.m, h.iv.mono le.m⟩, fun x x' v hfx hrx hx => ?_⟩
  · have e1 := place_len (H := cur) hlc
    have e2 := place_len (H := s.H) hlH
    have := h.len
    show (place cur ids cur1).length = (place s.H ids H1').length
    omega
  · have hg : (place s.H ids H1')[i]? = some g := hg
    by_cases hi : i < cur.length ∧ i ∉ ids
    · rw [place_other hi.1 hi.2] at hk
      rw [place_other (by rw [← h.len]; exact hi.1) hi.2] at hg
      refine (h.heap i k g hk hg).mono le (fun hl hm => ⟨frm _ (h.blk (List.mem_of_getElem? hk) hl hm).2 fun x hx q hq hql hqm e => ?_, szs⟩)
      exact hi.2 (h.inj x i q k hq hk hql hl hqm hm e ▸ hx)
    · rcases place_cases hn hlt hlc hk with ⟨j, rfl, h3⟩ | ⟨h2, h3, _⟩
      · rw [h.len] at hg
        rw [place_sg hn hltH hlH] at hg
        obtain ⟨g0, h4, h5⟩ := mapO_back hr j g hg
        refine HRel.push (e := env (giveB b cur w own ids) cur1 tk1 w1) (e' := env b (place cur ids cur1) tk w1) (f := sg ids s.H.length) hcp rfl ?_ h5 (h1.heap j k g0 h3 h4)
        cases ho : own with
        | true => exact .inr (hf ho g0 (List.mem_of_getElem? h4))
        | false => rw [← ho]; exact .inl (hm1 ho)
      · exact absurd ⟨h2, h3⟩ hi
  · rcases place_cases hn hlt hlc hi with ⟨i', rfl, h3⟩ | ⟨h2, h3, h4⟩ <;> rcases place_cases hn hlt hlc hj with ⟨j', rfl, h6⟩ | ⟨h5, h6, h7⟩
    · rw [h1.inj i' j' k q h3 h6 hkl hql hkm hqm e]
    · exfalso
      rcases (own1 k (List.mem_of_getElem? h3) hkl hkm).2 with ⟨x, hx, r, g3, g4, g5, g6⟩ | g3
      · exact h6 (h.inj x j r q g3 h7 g4 hql g5 hqm (by omega) ▸ hx)
      · have := (h.blk (List.mem_of_getElem? h7) hql hqm).2
        omega
    · exfalso
      rcases (own1 q (List.mem_of_getElem? h6) hql hqm).2 with ⟨x, hx, r, g3, g4, g5, g6⟩ | g3
      · exact h3 (h.inj x i r k g3 h4 g4 hkl g5 hkm (by omega) ▸ hx)
      · have := (h.blk (List.mem_of_getElem? h4) hkl hkm).2
        omega
    · exact h.inj i j k q h4 h7 hkl hql hkm hqm e
  · rcases memP q hq with hq | ⟨x, _, hq⟩
    · obtain ⟨h2, h3⟩ := own1 q hq hl hm
      refine ⟨h2, ?_⟩
      rcases h3 with ⟨i, _, r, h3, h4, h5, h6⟩ | h3
      · rw [← h6]
        exact (h.own r (List.mem_of_getElem? h3) h4 h5).2
      · exact .inr (Nat.le_trans h.bel.size h3)
    · exact h.own q (List.mem_of_getElem? hq) hl hm
  · obtain ⟨g3, g4, g5⟩ := h.tkB t k ht
    exact ⟨g3, okP k g4, g5⟩
  · have e1 := place_len (H := cur) hlc
    have := h.n0
    omega
  · refine RelX.push (e := env (giveB b cur w own ids) cur1 tk1 w1) (e' := env b (place cur ids cur1) tk w1) (f := sg ids s.H.length) hcp ?_ hx hrx
    cases ho : own with
    | true => exact .inr (hfx ho)
    | false => rw [← ho]; exact .inl (hm1 ho)
/-- A call of a function that may write what it is handed. -/
theorem call_own {k : FuncId} {xs : List X} {s : St} {Q : X → List HB → Nat → Prop} (con : ConC) (g : con.G) (ids : List Nat) (n : Nat) (hv : ValidC P k con) (hp : con.pre g) (hnn : s.H.length = n) (hn : ids.Nodup) (he : Emb (sg ids n) s.H ids (con.H0 g))
    (hargs : ArgsC (sg ids n) (hid ids s.H) con.own xs (con.args g)) {H1 : List HB} {x : X} (hH : mapO (renH (sg ids n)) (con.H1 g) = some H1) (hx : renX (sg ids n) (con.res g) = some x) (hQ : Q x (place s.H ids H1) s.nx) : callI P k xs s Q := by
  subst hnn
  refine ⟨hv.1, fun b cur tk a w vs hs hl hrel => ?_⟩
  obtain ⟨hflat, hlen, hcall⟩ := hv.2 g hp
  have hlt : ∀ i ∈ ids, i < cur.length := by rw [hs.len]; exact ids_lt he
  have hgive := hs.give con.own hn he
  have hargsX : argsX (env (giveB b cur w con.own ids) (pickK cur ids) (fun _ => none) w) (con.args g) vs := by
    obtain ⟨h1, h2⟩ := hargs.get
    refine ⟨by omega, fun i y v hy hv => ?_⟩
    obtain ⟨x, h3, h4⟩ := h2 i y hy
    have h5 := hrel i x v h3 hv
    cases h4 with
    | same _ hr =>
      refine RelX.pull (e := env (giveB b cur w con.own ids) (pickK cur ids) (fun _ => none) w) (e' := env b cur tk w) (f := sg ids s.H.length) (fun i k hk => ?_) ?_ h5 hr
      · rw [← hs.len] at hk
        exact pick_sg hlt hk
      · refine ⟨fun k hk => ⟨.inl ⟨hk.2.1, .inr hk⟩, hk.2.1, fun q hq hl hmm => ?_⟩, fun _ _ => rfl⟩
        obtain ⟨i, _, hi⟩ := pickK_mem hlt hq
        exact hk.2.2 q (List.mem_of_getElem? hi) hl hmm
    | data d hd =>
      have hk : Known b cur tk w (hid ids s.H) := by
        intro i k hb hk _ hh
        unfold hid at hh
        cases hc : ids.elem i with
        | true => rw [hc] at hh; cases hh
        | false => rw [hc] at hh; exact hs.heap i k hb hk hh
      have n1 : ∀ k, okOf b cur w k → ¬wrOf (pickK cur ids) k := by
        rintro k hk ⟨q, hq, h8, h9, h10⟩
        obtain ⟨i, _, hi⟩ := pickK_mem hlt hq
        exact hk.2.2 q (List.mem_of_getElem? hi) h8 h9 h10
      have n2 : ∀ (c : Nat) q hb, cur[c]? = some q → hid ids s.H c = some hb → q.live = true → q.mat = true → ¬wrOf (pickK cur ids) q.blk := by
        rintro c q hb hc hh hl hm ⟨r, hr, h8, h9, h10⟩
        obtain ⟨i, hi1, hi⟩ := pickK_mem hlt hr
        have e := hs.inj i c r q hi hc h8 hl h9 hm h10
        subst e
        unfold hid at hh
        rw [List.elem_eq_mem, decide_eq_true hi1] at hh
        cases hh
      obtain ⟨us, h6, h7⟩ := argLe_relN (wrOf (pickK cur ids)) hs hk n1 n2 hd h5
      have lem : M.Le ⟨w, fun k => k < w.heap.size ∧ (con.own = true ∨ okOf b cur w k) ∧ ¬wrOf (pickK cur ids) k, tk⟩ (mOf (giveB b cur w con.own ids) (pickK cur ids) (fun _ => none) w) :=
        ⟨fun k hk => ⟨.inl ⟨hk.1, hk.2.1⟩, hk.1, fun q hq hl hm e => hk.2.2 ⟨q, hq, hl, hm, e⟩⟩, fun _ _ => rfl⟩
      exact ⟨us, h6.mono lem, h7⟩
  refine Calls.mono (hcall (giveB b cur w con.own ids) (pickK cur ids) (fun _ => none) w vs rfl rfl rfl hgive hargsX) ?_
  rintro e w1 ⟨v, cur1, tk1, rfl, h1, h2⟩
  obtain ⟨h3, h4⟩ := hs.take hn he h1 hlen hH (fun ho => (hflat ho).2)
  exact ⟨v, x, _, s.nx, place cur ids cur1, tk, rfl, hQ, h3, h4 _ _ _ (fun ho => (hflat ho).1) hx h2⟩
/-- Chosen blocks alone, at a function's end. -/
theorem SimC.sel (h : SimC b cur tk s a w) {ids : List Nat} {Hs : List HB} (hn : ids.Nodup) (he : Emb (sg ids s.H.length) s.H ids Hs) (hnm : b.nm = 0) (hp : ∀ i, i < b.c0.length → ids[i]? = some i) :
    SimC b (pickK cur ids) (fun _ => none) ⟨[], Hs, 0, 0, b.c0.length⟩ ⟨#[], []⟩ w ∧
      ∀ (x x' : X) (v : Value), renX (sg ids s.H.length) x = some x' → RelX (env b cur tk w) x' v → RelX (env b (pickK cur ids) (fun _ => none) w) x v := by
  have hlt : ∀ i ∈ ids, i < cur.length := by rw [h.len]; exact ids_lt he
  obtain ⟨g1, g2⟩ := he.get
  have hm : (mOf b cur tk w).Le (mOf b (pickK cur ids) (fun _ => none) w) := by
    refine ⟨fun k hk => ⟨hk.1, hk.2.1, fun q hq hl hmm => ?_⟩, fun _ _ => rfl⟩
    obtain ⟨i, _, hi⟩ := pickK_mem hlt hq
    exact hk.2.2 q (List.mem_of_getElem? hi) hl hmm
  have hc : ∀ (i : Nat) k, (env b cur tk w).cur[sg ids s.H.length i]? = some k → (env b (pickK cur ids) (fun _ => none) w).cur[i]? = some k := by
    intro i k hk
    rw [← h.len] at hk
    exact pick_sg hlt hk
  have hpl : (pickK cur ids).length = ids.length := by simp [pickK]
  have hc0 : b.c0.length ≤ ids.length := by
    cases hz : b.c0.length with
    | zero => omega
    | succ n => exact (List.getElem?_eq_some_iff.1 (hp n (by omega))).1
  refine ⟨⟨h.bel, h.frm, h.bs, by simp [hpl, g1], fun i k hb hk hh => ?_, fun i j k q hi hj hkl hql hkm hqm e => ?_, fun q hq hl hmm => ?_, fun t => trivial, rfl, rfl, fun t u k h => (by cases h), fun t k h => (by cases h), by rw [hnm]; exact Nat.le_refl _, h.ok0,
    fun i k hk => ?_, by omega, Nat.le_refl _, h.iv.mono hm⟩, fun x x' v hr hx => RelX.pull (e' := env b cur tk w) (f := sg ids s.H.length) hc hm hx hr⟩
  · obtain ⟨j, hb', h1, h2, h3⟩ := g2 i hb hh
    have hi := (List.getElem?_eq_some_iff.1 h1).1
    rw [pickK_get hlt hi] at hk
    rw [List.getElem?_eq_getElem hi] at h1
    cases h1
    exact HRel.pull (e := env b (pickK cur ids) (fun _ => none) w) (e' := env b cur tk w) (f := sg ids s.H.length) hc hm rfl h2 (h.heap _ k hb' hk h3)
  · have hi' := (List.getElem?_eq_some_iff.1 hi).1
    have hj' := (List.getElem?_eq_some_iff.1 hj).1
    rw [hpl] at hi' hj'
    rw [pickK_get hlt hi'] at hi
    rw [pickK_get hlt hj'] at hj
    exact (List.getElem_inj hn).1 (h.inj _ _ k q hi hj hkl hql hkm hqm e)
  · obtain ⟨i, _, hi⟩ := pickK_mem hlt hq
    exact h.own q (List.mem_of_getElem? hi) hl hmm
  · obtain ⟨k', h1, h2⟩ := h.cm i k hk
    have hi := (List.getElem?_eq_some_iff.1 hk).1
    have h3 := hp i hi
    obtain ⟨h4, h5⟩ := List.getElem?_eq_some_iff.1 h3
    refine ⟨k', ?_, h2⟩
    rw [pickK_get hlt h4, h5]
    exact h1
def zipX : List X → Nat → (List (Nat × X) → Prop) → Prop
  | [], _, Q => Q []
  | x :: r, i, Q => fX x fun x => zipX r i.succ fun tm => Q ((i, x) :: tm)
theorem zipX_eq : ∀ (l : List X) (i : Nat) (Q : List (Nat × X) → Prop), zipX l i Q = Q ((l.zipIdx i).map fun p => (p.2, p.1))
  | [], _, _ => rfl
  | d :: r, i, Q => by
    rw [zipX, fX_eq, zipX_eq r]
    rfl
def startC (l : List X) (H : List HB) (n : Nat) (Q : St → Prop) : Prop := zipX l 0 fun tm => fH H fun H => lenK H 0 fun m => Q ⟨tm, H, n, 0, m⟩
theorem startC_eq (l : List X) (H : List HB) (n : Nat) (Q : St → Prop) : startC l H n Q = Q ⟨l.zipIdx.map fun p => (p.2, p.1), H, n, 0, H.length⟩ := by
  unfold startC
  rw [zipX_eq, fH_eq, lenK_eq]
  rfl
/-- The end of a function that hands over: the blocks handed to it, those that it made. -/
def EndC (n0 : Nat) (H1 : List HB) (res : X) (s : St) (x : X) : Prop := ∃ js : List Nat, (List.range n0 ++ js).Nodup ∧ Emb (sg (List.range n0 ++ js) s.H.length) s.H (List.range n0 ++ js) H1 ∧ renX (sg (List.range n0 ++ js) s.H.length) res = some x
theorem validC_intro {f : FuncId} {fn : Func} {c : Code} {ts : List Nat} (con : ConC) (hf : P.funcs[f]? = some fn) (hb : fn.body = some c) (hn : (fn.name == "runtime.NumGoroutine") = false)
    (ht : fn.results = (ts.map ResultVar.tmp).toArray) (hl : ts.length ≤ 3) (hle : ∀ g, (con.args g).length ≤ fn.ntmps) (hflat : ∀ g, con.pre g → con.own = true → FlatX (con.res g) ∧ ∀ h ∈ con.H1 g, FlatH h) (hlen : ∀ g, (con.H0 g).length ≤ (con.H1 g).length)
    (h : ∀ g, con.pre g → startC (con.args g) (con.H0 g) fn.ntmps (W P c fun e s => (e = .normal ∨ e = .ret) ∧ EndC (con.H0 g).length (con.H1 g) (con.res g) s (resX s ts))) : ValidC P f con := by
  simp only [startC_eq] at h
  refine ⟨⟨fn, hf, hn, by simp [hb]⟩, fun g hpre => ⟨hflat g hpre, hlen g, fun b cur tk w vs hw hc hwr hs hargs => ?_⟩⟩
  obtain ⟨hal, har⟩ := hargs
  refine calls_of_wp hf hb ?_
  have hle := hle g
  have hsize : (vs.toArray ++ Array.replicate (fn.ntmps - vs.toArray.size) undef).size = fn.ntmps := by simp; omega
  have hsim : SimC b cur tk ⟨(con.args g).zipIdx.map fun p => (p.2, p.1), con.H0 g, fn.ntmps, 0, (con.H0 g).length⟩ ⟨vs.toArray ++ Array.replicate (fn.ntmps - vs.toArray.size) undef, []⟩ w := by
    refine ⟨hs.bel, hs.frm, hs.bs, hs.len, hs.heap, hs.inj, hs.own, fun t => ?_, hsize, rfl, hs.tkI, hs.tkB, hs.nm, hs.ok0, hs.cm, hs.n0, hs.m, hs.iv⟩
    show RelX _ (look ((con.args g).zipIdx.map fun p => (p.2, p.1)) t) _
    rw [look_zip, if_pos (Nat.zero_le _), Nat.sub_zero]
    cases hd : (con.args g)[t]? with
    | none => trivial
    | some d =>
      have htl : t < vs.length := by
        rw [← hal]
        exact (List.getElem?_eq_some_iff.1 hd).1
      have e : (vs.toArray ++ Array.replicate (fn.ntmps - vs.toArray.size) undef).getD t undef = vs[t] := by
        rw [Array.getD_eq_getD_getElem?, Array.getElem?_append_left (by simpa using htl)]
        simp [htl]
      simp only [e]
      exact har t d vs[t] hd (List.getElem?_eq_getElem htl)
  refine wp_mono ((h g hpre).1 b _ w ⟨cur, tk, hsim⟩) ?_
  rintro e a' w' ⟨s', ⟨he, js, hjn, hemb, hres⟩, cur', tk', hs'⟩
  obtain ⟨v, hr, hv⟩ := resX_rel (P := P) hs' ht hl
  have hcl : b.c0.length = (con.H0 g).length := by rw [hc]; exact hs.len
  have hnm : b.nm = 0 := by have := hs.nm; simpa using this
  obtain ⟨h1, h2⟩ := hs'.sel hjn hemb hnm (fun i hi => by
    rw [List.getElem?_append_left (by rw [List.length_range]; omega), List.getElem?_range (by omega)])
  rw [hcl] at h1
  have hfin : a'.defers = [] ∧ ∃ v, (results fn a'.tmps).run P w' = .ok v w' ∧ ∃ v' cur2 tk2, Ending.returned v = .returned v' ∧ SimC b cur2 tk2 ⟨[], con.H1 g, 0, 0, (con.H0 g).length⟩ ⟨#[], []⟩ w' ∧ RelX (env b cur2 tk2 w') (con.res g) v' :=
    ⟨hs'.dfr, v, hr, v, _, _, rfl, h1, h2 _ _ _ hres hv⟩
  rcases he with rfl | rfl
  · exact hfin
  · exact hfin
end
end Go.Proofs.YthjjbfpcclojbaaDoor.Pv
end

section
/- A nil list that becomes a list of our own: a step that changes nothing but the view. No condition. -/
set_option linter.unusedVariables false
set_option linter.unusedSimpArgs false
namespace Go.Proofs.YthjjbfpcclojbaaDoor.Pv
open Go.RowKit
section
variable {b : B} {cur : List K} {tk : Nat × Nat → Option Nat} {s : St} {a : Act} {w : World} {P : Program}
/-- A cell of block i holds nil: it holds a new list of ours. -/
theorem SimC.nilBox (h : SimC b cur tk s a w) {i j t n el sz : Nat} {ds : List D} (hi : s.H[i]? = some (.p t n [ds])) (hj : ds[j]? = some (.v (.slice none 0 0))) :
    SimC b (cur ++ [⟨0, sz, 0, 1, true, false⟩]) tk { s with H := s.H.set i (.c t n [(ds.map .d).set j (.sl s.H.length 0 0 0)]) ++ [.p el sz []] } a w := by
  have hlen := h.len
  have hil : i < s.H.length := (List.getElem?_eq_some_iff.1 hi).1
  have hm : (mOf b cur tk w).Le (mOf b (cur ++ [⟨0, sz, 0, 1, true, false⟩]) tk w) := by
    refine ⟨fun k hk => ⟨hk.1, hk.2.1, fun q hq hl hmm => ?_⟩, fun _ _ => rfl⟩
    rw [List.mem_append] at hq
    rcases hq with hq | hq
    · exact hk.2.2 q hq hl hmm
    · simp only [List.mem_singleton] at hq
      subst hq
      cases hmm
  have get : ∀ (i : Nat) k, cur[i]? = some k → (cur ++ [⟨0, sz, 0, 1, true, false⟩])[i]? = some k := fun i k hk => by
    rw [List.getElem?_append_left (List.getElem?_eq_some_iff.1 hk).1]
    exact hk
  have le : (env b cur tk w).Le (env b (cur ++ [⟨0, sz, 0, 1, true, false⟩]) tk w) := ⟨hm, fun i k hk => ⟨k, get i k hk, Nat.le_refl _, fun _ _ => rfl⟩⟩
  have back : ∀ (i : Nat) k, (cur ++ [⟨0, sz, 0, 1, true, false⟩])[i]? = some k → (i < cur.length ∧ cur[i]? = some k) ∨ (i = cur.length ∧ k = ⟨0, sz, 0, 1, true, false⟩) := by
    intro i k hk
    by_cases hlt : i < cur.length
    · rw [List.getElem?_append_left hlt] at hk
      exact .inl ⟨hlt, hk⟩
    · rw [List.getElem?_append_right (by omega)] at hk
      have h1 := (List.getElem?_eq_some_iff.1 hk).1
      simp at h1
      have : i = cur.length := by omega
      subst this
      simp at hk
      exact .inr ⟨rfl, hk.symm⟩
  have hnew : ∀ v, RelD (mOf b cur tk w) (.v (.slice none 0 0)) v → RelS (env b (cur ++ [⟨0, sz, 0, 1, true, false⟩]) tk w) (.sl s.H.length 0 0 0) v := by
    intro v hv
    cases hv with
    | v _ _ =>
      refine .sl _ 0 0 0 none 0 ⟨0, sz, 0, 1, true, false⟩ ?_ Nat.zero_lt_one (fun _ _ => by unfold SlOk; rw [if_neg (fun h => by cases h)]; exact ⟨rfl, rfl⟩) (Nat.le_refl _)
      show (cur ++ [_])[s.H.length]? = _
      rw [← hlen, List.getElem?_append_right (Nat.le_refl _)]
      simp
  refine ⟨h.bel, h.frm, h.bs, by simp [hlen], fun x k g hk hg => ?_, fun x y k q hx hy hkl hql hkm hqm e => ?_, fun q hq hl hmm => ?_, fun t => (h.tmp t).mono le, h.size, h.dfr, h.tkI, fun t k ht => ?_, h.nm, h.ok0, cm_trans h.cm fun x k _ hk => le.cur x k hk, by have := h.n0; simp; omega, h.m, h.iv.mono hm⟩
  · have hg : (s.H.set i (.c t n [(ds.map .d).set j (.sl s.H.length 0 0 0)]) ++ [.p el sz []])[x]? = some g := hg
    rcases back x k hk with ⟨h1, h2⟩ | ⟨h1, h2⟩
    · rw [List.getElem?_append_left (by simp; omega)] at hg
      by_cases hx : i = x
      · subst hx
        simp [hil] at hg
        subst hg
        have hr : Lies (env b cur tk w) k t n ([ds].map (·.map .d)) := h.heap i k _ h2 hi
        have hjl : j < ds.length := (List.getElem?_eq_some_iff.1 hj).1
        refine (⟨hr.live, hr.size, hr.top, fun r hr' => ?_, fun hmm => ?_, fun hmm => ?_, hr.fix⟩ : Lies (env b (cur ++ [⟨0, sz, 0, 1, true, false⟩]) tk w) k t n [(ds.map .d).set j (.sl s.H.length 0 0 0)])
        · simp only [List.mem_singleton] at hr'
          subst hr'
          rw [List.length_set]
          exact hr.len (ds.map .d) (by simp)
        · obtain ⟨g1, g2, g3, arr, g4, g5, g6⟩ := hr.mat hmm
          refine ⟨g1, g2, g3, arr, g4, g5, fun p q y hy => ?_⟩
          have hp : p = 0 := by
            unfold cellAt at hy
            obtain ⟨r, hr1, _⟩ := Option.bind_eq_some_iff.1 hy
            have := (List.getElem?_eq_some_iff.1 hr1).1
            simp at this
            exact this
          subst hp
          have hy : ((ds.map S.d).set j (.sl s.H.length 0 0 0))[q]? = some y := hy
          by_cases hq : j = q
          · subst hq
            rw [List.getElem?_set_self (by simpa using hjl)] at hy
            cases hy
            obtain ⟨v, h3, h4⟩ := g6 0 j (.d (.v (.slice none 0 0))) (by
              show (ds.map S.d)[j]? = _
              rw [List.getElem?_map, hj]
              rfl)
            cases h4 with
            | d _ _ h4 => exact ⟨v, h3, hnew v h4⟩
          · rw [List.getElem?_set_ne hq] at hy
            obtain ⟨v, h3, h4⟩ := g6 0 q y hy
            exact ⟨v, h3, h4.mono le⟩
        · have := hr.nil hmm
          simp at this
      · rw [List.getElem?_set_ne hx] at hg
        exact (h.heap x k g h2 hg).mono le (fun _ _ => ⟨rfl, Nat.le_refl _⟩)
    · subst h2
      rw [List.getElem?_append_right (by simp; omega)] at hg
      have h3 := List.mem_of_getElem? hg
      simp only [List.mem_singleton] at h3
      subst h3
      exact (⟨rfl, rfl, rfl, fun r hr => (by cases hr), fun h => (by cases h), fun _ => rfl, fun _ h => (by cases h)⟩ : Lies (env b (cur ++ [⟨0, sz, 0, 1, true, false⟩]) tk w) ⟨0, sz, 0, 1, true, false⟩ el sz [])
  · rcases back x k hx with ⟨_, h2⟩ | ⟨_, h2⟩
    · rcases back y q hy with ⟨_, h4⟩ | ⟨_, h4⟩
      · exact h.inj x y k q h2 h4 hkl hql hkm hqm e
      · subst h4; cases hqm
    · subst h2; cases hkm
  · rw [List.mem_append] at hq
    rcases hq with hq | hq
    · exact h.own q hq hl hmm
    · simp only [List.mem_singleton] at hq
      subst hq
      cases hmm
  · obtain ⟨g1, g2, g3⟩ := h.tkB t k ht
    exact ⟨g1, hm.ok k g2, g3⟩
theorem W_nilBox {c : Code} {K' : Exit → St → Prop} (i j el sz : Nat) {t n : Nat} {ds : List D} (hi : s.H[i]? = some (.p t n [ds])) (hj : ds[j]? = some (.v (.slice none 0 0))) (s' : St)
    (he : s' = { s with H := s.H.set i (.c t n [(ds.map .d).set j (.sl s.H.length 0 0 0)]) ++ [.p el sz []] }) (h : W P c K' s') : W P c K' s := by
  subst he
  exact ⟨fun b a w ⟨cur, tk, hs⟩ => h.1 b a w ⟨_, tk, hs.nilBox (el := el) (sz := sz) hi hj⟩⟩
end
end Go.Proofs.YthjjbfpcclojbaaDoor.Pv
end

section
/- Functions whose result lies in a cell. No condition. -/
set_option linter.unusedVariables false
set_option linter.unusedSimpArgs false
namespace Go.Proofs.YthjjbfpcclojbaaDoor.Pv
open Go.RowKit
section
variable {b : B} {cur : List K} {tk : Nat × Nat → Option Nat} {s : St} {a : Act} {w : World} {P : Program}
theorem cell_rel (T : Tb P) (hs : SimC b cur tk s a w) {fn : Func} {r t q : Nat} {i : TI} {row : List D} (ht : fn.results = #[.cell r t]) (hi : T.tb t = some i) (hx : look s.tm r = .one (.o false [.pt q 0 0 1]))
    (hb : s.H[q]? = some (.p t i.n [row])) (hl : row.length = i.n) : ∃ v, (results fn a.tmps).run P w = .ok v w ∧ RelX (env b cur tk w) (.one (.p i.ag row)) v := by
  have hT := T.ok t i hi
  have h1 := hs.tmp r
  rw [hx] at h1
  have hS := relX_s h1
  generalize he : a.tmps.getD r undef = u at hS
  cases hS with
  | pt _ _ _ _ ad k hkc htp hv =>
  have hL : Lies (env b cur tk w) k t i.n ([row].map (·.map .d)) := hs.heap q k _ hkc hb
  obtain ⟨hm, rfl⟩ := hv hL.live (by rw [hL.top]; rfl)
  obtain ⟨vs, hvl, hrel, hc⟩ := load_rows (j := 0) (n := i.n) hL hm (r := 0) (row := row.map .d) rfl (by simp [hl])
  obtain ⟨v, hmk⟩ := mkV_of hT hvl
  have hrun := run_loadT hT _ vs v hvl hc hmk
  rw [sub_map] at hrel
  have hsub : sub row 0 i.n = row := by unfold sub; simp [hl]
  rw [hsub] at hrel
  refine ⟨v, ?_, vs, hrel.to_D, hmk⟩
  simp only [Instr.loadAt, Instr.sureAddr] at hrun
  rw [Array.getD_eq_getD_getElem?] at he
  simp [results, ht, he, asAddr]
  simpa using hrun
theorem valid_cell (T : Tb P) {f : FuncId} {fn : Func} {c : Code} {t r : Nat} {i : TI} (con : Con) (hi : T.tb t = some i) (hf : P.funcs[f]? = some fn) (hb : fn.body = some c) (hn : (fn.name == "runtime.NumGoroutine") = false)
    (ht : fn.results = #[.cell r t]) (hle : ∀ g, (con.args g).length ≤ fn.ntmps)
    (h : ∀ g, con.pre g → ∀ nm nx, startF (con.args g) fn.ntmps nx (W P c fun e s => (e = .normal ∨ e = .ret) ∧ ∃ q row, look s.tm r = .one (.o false [.pt q 0 0 1]) ∧ s.H[q]? = some (.p t i.n [row]) ∧ row.length = i.n ∧ XLe con.own s.H (.one (.p i.ag row)) (con.res nm g))) : Valid P f con := by
  simp only [startF_eq] at h
  refine ⟨⟨fn, hf, hn, by simp [hb]⟩, fun g hpre nm w ok tk0 vs hok hiv hargs => ?_⟩
  let b : B := ⟨w, w.heap.size, ok, fun _ => False, [], 0⟩
  obtain ⟨hal, har⟩ := hargs
  refine calls_of_wp hf hb ?_
  have hgl : vs.length = (con.args g).length := hal.symm
  have hle := hle g
  have hsize : (vs.toArray ++ Array.replicate (fn.ntmps - vs.toArray.size) undef).size = fn.ntmps := by simp; omega
  have hsim : SimC b [] (fun _ => none) (st0 ((con.args g).map toX) fn.ntmps 0) ⟨vs.toArray ++ Array.replicate (fn.ntmps - vs.toArray.size) undef, []⟩ w := by
    have hokk : ∀ k, ok k → okOf b [] w k := fun k hk => ⟨.inl hk, hok k hk, fun q hq => by cases hq⟩
    refine ⟨Below.refl _ _, fun _ _ _ => rfl, Nat.le_refl _, rfl, (fun i k h hk => by cases hk), (fun i j k q hi => by cases hi), (fun k hk => by cases hk), fun t => ?_, hsize, rfl, (fun t u k h => by cases h), (fun t k ht => by cases ht), Nat.le_refl _, hok, fun i k hk => (by cases hk), Nat.zero_le _, Nat.zero_le _, Iv.mono (m := ⟨w, ok, tk0⟩) (m' := mOf b [] (fun _ => none) w) ⟨hokk, fun _ _ => rfl⟩ hiv⟩
    · show RelX _ (look (((con.args g).map toX).zipIdx.map fun p => (p.2, p.1)) t) _
      rw [look_zip, if_pos (Nat.zero_le _), Nat.sub_zero, List.getElem?_map]
      cases hd : (con.args g)[t]? with
      | none => trivial
      | some d =>
        have htl : t < vs.length := by
          rw [hgl]
          exact (List.getElem?_eq_some_iff.1 hd).1
        obtain ⟨us, h1, h2⟩ := har t d vs[t] hd (List.getElem?_eq_getElem htl)
        have e : (vs.toArray ++ Array.replicate (fn.ntmps - vs.toArray.size) undef).getD t undef = vs[t] := by
          rw [Array.getD_eq_getD_getElem?, Array.getElem?_append_left (by simpa using htl)]
          simp [htl]
        simp only [e]
        exact ⟨us, RelDL.mono (m := ⟨w, ok, tk0⟩) (m' := mOf b [] (fun _ => none) w) ⟨hokk, fun _ _ => rfl⟩ h1, h2⟩
  refine wp_mono ((h g hpre nm 0).1 b _ w ⟨[], _, hsim⟩) ?_
  rintro e a' w' ⟨s', ⟨he, q, row, hq, hb, hrl, hx⟩, cur', tk', hs'⟩
  obtain ⟨v, hr, hv⟩ := cell_rel T hs' ht hi hq hb hrl
  have hfin : a'.defers = [] ∧ ∃ v, (results fn a'.tmps).run P w' = .ok v w' ∧ ∃ v' tk, Ending.returned v = .returned v' ∧ Below w.heap.size w w' ∧
      RelX ⟨⟨w', fun k => ((ok k ∧ con.own = false) ∨ w.heap.size ≤ k) ∧ k < w'.heap.size, tk⟩, []⟩ (con.res nm g) v' :=
    ⟨hs'.dfr, v, hr, v, tk0, rfl, hs'.bel, hx.rel hs' (fun _ h => h) hv tk0⟩
  rcases he with rfl | rfl
  · exact hfin
  · exact hfin
end
end Go.Proofs.YthjjbfpcclojbaaDoor.Pv
end
