/- Texts of one proof, one behind the other: each tells what it proves. -/
import Derived.Test.YtijldkknhphgcaaGreatCCheckGraph2

section
/- Functions that write what they are handed, and hand out memory of their own. No condition. -/
set_option linter.unusedVariables false
set_option linter.unusedSimpArgs false
namespace Go.Proofs.YtijldkknhphgcaaGreat.Pv
open Go.RowKit
def mapO {α β:Type} (f:α → Option β):List α → Option (List β)
 | []=>some []
 | x :: r=>match f x,mapO f r with
  | some y,some q=>some (y :: q)
  | _,_=>none
theorem mapO_len {α β:Type} {f:α → Option β}:∀ {l:List α} {q:List β},mapO f l = some q → q.length = l.length
 | [],q,h=>by cases h;rfl
 | x :: r,q,h=>by
  unfold mapO at h
  split at h
  ·rename_i y p h1 h2
   cases h
   simp [mapO_len h2]
  ·cases h
theorem mapO_get {α β:Type} {f:α → Option β}:∀ {l:List α} {q:List β},mapO f l = some q → ∀ (i:Nat) x,l[i]? = some x → ∃ y,f x = some y ∧ q[i]? = some y
 | [],q,h,i,x,hx=>by cases hx
 | a :: r,q,h,i,x,hx=>by
  unfold mapO at h
  split at h
  ·rename_i y p h1 h2
   cases h
   cases i with
   | zero=>cases hx;exact ⟨y,h1,rfl⟩
   | succ i=>exact mapO_get h2 i x hx
  ·cases h
theorem mapO_back {α β:Type} {f:α → Option β} {l:List α} {q:List β} (h:mapO f l = some q) (i:Nat) (y:β) (hy:q[i]? = some y):∃ x,l[i]? = some x ∧ f x = some y:=by
 have hi:i < l.length:=by rw [← mapO_len h];exact (List.getElem?_eq_some_iff.1 hy).1
 obtain ⟨y',h1,h2⟩:=mapO_get h i l[i] (List.getElem?_eq_getElem hi)
 rw [h2] at hy
 cases hy
 exact ⟨l[i],List.getElem?_eq_getElem hi,h1⟩
def renS (f:Nat → Nat):S → Option S
 | .d x=>some (.d x)
 | .sl b off len top=>some (.sl (f b) off len top)
 | .pt b i j top=>some (.pt (f b) i j top)
 | .sp c=>some (.sp c)
 | .fn _ _ _=>none
 | .mp b=>some (.mp (f b))
 | .ow _ _=>none
def renH (f:Nat → Nat):HB → Option HB
 | .c el sz rows=>match mapO (mapO (renS f)) rows with
  | some q=>some (.c el sz q)
  | none=>none
 | .p el sz rows=>some (.p el sz rows)
 | .dead=>some .dead
def renV (f:Nat → Nat):V → Option V
 | .p ag ds=>some (.p ag ds)
 | .o ag ss=>match mapO (renS f) ss with
  | some q=>some (.o ag q)
  | none=>none
 | .un=>some .un
def renX (f:Nat → Nat):X → Option X
 | .one v=>match renV f v with
  | some u=>some (.one u)
  | none=>none
 | .tup vs=>match mapO (renV f) vs with
  | some us=>some (.tup us)
  | none=>none
def FlatD:D → Prop
 | .v _=>True
 | _=>False
def FlatS:S → Prop
 | .d x=>FlatD x
 | .sp _=>False
 | _=>True
def FlatH:HB → Prop
 | .c _ _ rows=>∀ r ∈ rows,∀ x ∈ r,FlatS x
 | .p _ _ rows=>∀ r ∈ rows,∀ x ∈ r,FlatD x
 | .dead=>True
def FlatV:V → Prop
 | .p _ ds=>∀ x ∈ ds,FlatD x
 | .o _ ss=>∀ x ∈ ss,FlatS x
 | .un=>True
def FlatX:X → Prop
 | .one v=>FlatV v
 | .tup vs=>∀ v ∈ vs,FlatV v
section
variable {e e':E} {f:Nat → Nat}
theorem RelD.flat {m m':M} {d:D} {v:Value} (h:RelD m d v) (hf:m.Le m' ∨ FlatD d):RelD m' d v:=by
 rcases hf with hf | hf
 ·exact h.mono hf
 ·cases h with
  | v _ h=>exact .v _ h
  | nil=>exact hf.elim
  | li=>exact hf.elim
  | ic=>exact hf.elim
theorem RelS.push (hc:∀ (i:Nat) k,e.cur[i]? = some k → e'.cur[f i]? = some k) {s s':S} {v:Value} (hm:e.toM.Le e'.toM ∨ FlatS s) (h:RelS e s v) (hr:renS f s = some s'):RelS e' s' v:=by
 cases h with
 | d x v h=>cases hr;exact .d _ _ (h.flat hm)
 | sl b off len top a c k hk ht hv hl=>cases hr;exact .sl _ off len top a c k (hc b k hk) ht hv hl
 | pt b i j top a k hk ht hv=>cases hr;exact .pt _ i j top a k (hc b k hk) ht hv
 | sp cells blk off vs hok hcl hrl =>
  cases hr
  rcases hm with hm | hm
  ·exact .sp cells blk off vs (hm.ok _ hok) (fun j d h=>(World.cell?_of_block (hm.heap blk hok)).trans (hcl j d h)) (fun j d h=>(hrl j d h).mono hm)
  ·exact hm.elim
 | fn=>cases hr
 | mp b k r hk ht hv=>cases hr;exact .mp _ k r (hc b k hk) ht hv
 | ow=>cases hr
theorem cell_ren_back {rows rows':List (List S)} (h:mapO (mapO (renS f)) rows = some rows') {i j:Nat} {s':S} (hs:cellAt rows' i j = some s'):∃ s,renS f s = some s' ∧ cellAt rows i j = some s:=by
 unfold cellAt at hs ⊢
 obtain ⟨r',h1,h2⟩:=Option.bind_eq_some_iff.1 hs
 obtain ⟨r,h3,h4⟩:=mapO_back h i r' h1
 obtain ⟨s,h5,h6⟩:=mapO_back h4 j s' h2
 exact ⟨s,h6,by rw [h3];exact h5⟩
theorem row_len {rows rows':List (List S)} (h:mapO (mapO (renS f)) rows = some rows') {n:Nat}:(∀ r ∈ rows,r.length = n) ↔ ∀ r ∈ rows',r.length = n:=by
 constructor
 ·intro hl r hr
  obtain ⟨i,hi⟩:=List.getElem?_of_mem hr
  obtain ⟨q,h1,h2⟩:=mapO_back h i r hi
  rw [mapO_len h2]
  exact hl q (List.mem_of_getElem? h1)
 ·intro hl r hr
  obtain ⟨i,hi⟩:=List.getElem?_of_mem hr
  obtain ⟨q,h1,h2⟩:=mapO_get h i r hi
  rw [← mapO_len h1]
  exact hl q (List.mem_of_getElem? h2)
theorem HRel.push (hc:∀ (i:Nat) k,e.cur[i]? = some k → e'.cur[f i]? = some k) (hw:e'.w = e.w) {h h':HB} {k:K} (hm:e.toM.Le e'.toM ∨ FlatH h) (hr:renH f h = some h') (hh:HRel e k h):HRel e' k h':=by
 cases h with
 | c el sz rows =>
  simp only [renH] at hr
  split at hr
  ·rename_i q hq
   cases hr
   have hh:Lies e k el sz rows:=hh
   have hl:=mapO_len hq
   refine (⟨hh.live,hh.size,by rw [hl];exact hh.top,(row_len hq).1 hh.len,fun hmm=>?_,fun hmm=>?_,fun h1 hm'=>by rw [hw,hl];exact hh.fix h1 hm'⟩:Lies e' k el sz q)
   ·obtain ⟨g1,g2,g3,arr,g4,g5,g6⟩:=hh.mat hmm
    rw [hw,hl]
    refine ⟨g1,g2,g3,arr,g4,g5,fun i j s' hs=>?_⟩
    obtain ⟨s,h1,h2⟩:=cell_ren_back hq hs
    obtain ⟨v,h3,h4⟩:=g6 i j s h2
    refine ⟨v,h3,h4.push hc (hm.imp id fun hf=>?_) h1⟩
    unfold cellAt at h2
    obtain ⟨r,h5,h6⟩:=Option.bind_eq_some_iff.1 h2
    exact hf r (List.mem_of_getElem? h5) s (List.mem_of_getElem? h6)
   ·have:=hh.nil hmm
    subst this
    cases hq
    rfl
  ·cases hr
 | p el sz rows =>
  cases hr
  have hh:Lies e k el sz (rows.map (·.map .d)):=hh
  refine (⟨hh.live,hh.size,hh.top,hh.len,fun hmm=>?_,hh.nil,fun h1 hm'=>by rw [hw];exact hh.fix h1 hm'⟩:Lies e' k el sz (rows.map (·.map .d)))
  obtain ⟨g1,g2,g3,arr,g4,g5,g6⟩:=hh.mat hmm
  rw [hw]
  refine ⟨g1,g2,g3,arr,g4,g5,fun i j s hs=>?_⟩
  obtain ⟨v,h3,h4⟩:=g6 i j s hs
  refine ⟨v,h3,?_⟩
  rw [cellAt_map] at hs
  obtain ⟨d,hd,rfl⟩:=Option.map_eq_some_iff.1 hs
  cases h4 with
  | d _ _ h4 =>
  refine .d _ _ (h4.flat (hm.imp id fun hf=>?_))
  unfold cellAt at hd
  obtain ⟨r,h5,h6⟩:=Option.bind_eq_some_iff.1 hd
  exact hf r (List.mem_of_getElem? h5) d (List.mem_of_getElem? h6)
 | dead=>cases hr;exact hh
theorem RelSL.push (hc:∀ (i:Nat) k,e.cur[i]? = some k → e'.cur[f i]? = some k) {s s':List S} {v:List Value} (hm:e.toM.Le e'.toM ∨ ∀ x ∈ s,FlatS x) (h:RelSL e s v) (hr:mapO (renS f) s = some s'):RelSL e' s' v:=by
 refine ⟨(mapO_len hr).trans h.1,fun i y u hy hu=>?_⟩
 obtain ⟨x,h1,h2⟩:=mapO_back hr i y hy
 exact (h.2 i x u h1 hu).push hc (hm.imp id fun hf=>hf x (List.mem_of_getElem? h1)) h2
theorem RelV.push (hc:∀ (i:Nat) k,e.cur[i]? = some k → e'.cur[f i]? = some k) {x x':V} {v:Value} (hm:e.toM.Le e'.toM ∨ FlatV x) (h:RelV e x v) (hr:renV f x = some x'):RelV e' x' v:=by
 cases x with
 | p ag ds =>
  cases hr
  obtain ⟨vs,h1,h2⟩:=h
  exact ⟨vs,⟨h1.1,fun i d u hd hu=>(h1.2 i d u hd hu).flat (hm.imp id fun hf=>hf d (List.mem_of_getElem? hd))⟩,h2⟩
 | o ag ss =>
  simp only [renV] at hr
  split at hr
  ·rename_i q hq
   cases hr
   obtain ⟨vs,h1,h2⟩:=h
   exact ⟨vs,h1.push hc hm hq,h2⟩
  ·cases hr
 | un=>cases hr;trivial
theorem RelX.push (hc:∀ (i:Nat) k,e.cur[i]? = some k → e'.cur[f i]? = some k) {x x':X} {v:Value} (hm:e.toM.Le e'.toM ∨ FlatX x) (h:RelX e x v) (hr:renX f x = some x'):RelX e' x' v:=by
 cases x with
 | one x =>
  simp only [renX] at hr
  split at hr
  ·rename_i u hu
   cases hr
   exact RelV.push hc hm h hu
  ·cases hr
 | tup xs =>
  simp only [renX] at hr
  split at hr
  ·rename_i us hu
   cases hr
   obtain ⟨vs,h1,h2,h3⟩:=h
   refine ⟨vs,h1,(mapO_len hu).trans h2,fun i y u hy hu'=>?_⟩
   obtain ⟨x,h4,h5⟩:=mapO_back hu i y hy
   exact RelV.push hc (hm.imp id fun hf=>hf x (List.mem_of_getElem? h4)) (h3 i x u h4 hu') h5
  ·cases hr
end
def sg:List Nat → Nat → Nat → Nat
 | a :: _,_,0=>a
 | _ :: r,n,i + 1=>sg r n i
 | [],n,i=>n + i
def place {α:Type} (H:List α):List Nat → List α → List α
 | [],l=>H ++ l
 | i :: r,a :: l=>place (H.set i a) r l
 | _ :: _,[]=>H
theorem sg_lt:∀ {ids:List Nat} {n i:Nat} (h:i < ids.length),sg ids n i = ids[i]
 | a :: r,n,0,h=>rfl
 | a :: r,n,i + 1,h=>by
  rw [sg,sg_lt (by simpa using h)]
  rfl
theorem sg_ge:∀ {ids:List Nat} {n i:Nat},ids.length ≤ i → sg ids n i = n + (i - ids.length)
 | [],n,i,h=>rfl
 | a :: r,n,0,h=>by simp at h
 | a :: r,n,i + 1,h=>by
  rw [sg,sg_ge (by simpa using h)]
  simp
theorem place_len {α:Type}:∀ {H:List α} {ids:List Nat} {l:List α},ids.length ≤ l.length → (place H ids l).length + ids.length = H.length + l.length
 | H,[],l,h=>by simp [place]
 | H,i :: r,a :: l,h=>by
  have:=place_len (H:=H.set i a) (ids:=r) (l:=l) (by simpa using h)
  simp [place] at this ⊢
  omega
 | H,i :: r,[],h=>by simp at h
theorem place_other {α:Type}:∀ {H:List α} {ids:List Nat} {l:List α} {x:Nat},x < H.length → x ∉ ids → (place H ids l)[x]? = H[x]?
 | H,[],l,x,h,hx=>by rw [place,List.getElem?_append_left h]
 | H,i :: r,a :: l,x,h,hx=>by
  rw [List.mem_cons,not_or] at hx
  rw [place,place_other (by simpa using h) hx.2,List.getElem?_set_ne (fun e=>hx.1 e.symm)]
 | H,i :: r,[],x,h,hx=>rfl
theorem place_sg {α:Type}:∀ {H:List α} {ids:List Nat} {l:List α} {j:Nat},ids.Nodup → (∀ i ∈ ids,i < H.length) → ids.length ≤ l.length → (place H ids l)[sg ids H.length j]? = l[j]?
 | H,[],l,j,hn,hi,hl=>by
  rw [place,sg_ge (by simp)]
  simp only [List.length_nil,Nat.sub_zero]
  rw [List.getElem?_append_right (by omega)]
  congr 1
  omega
 | H,i :: r,a :: l,0,hn,hi,hl=>by
  rw [List.nodup_cons] at hn
  have h1:=hi i (by simp)
  rw [place,sg,place_other (by simpa using h1) hn.1]
  simp [h1]
 | H,i :: r,a :: l,j + 1,hn,hi,hl=>by
  rw [List.nodup_cons] at hn
  have:=place_sg (H:=H.set i a) (ids:=r) (l:=l) (j:=j) hn.2 (fun k hk=>by simpa using hi k (by simp [hk])) (by simpa using hl)
  rw [List.length_set] at this
  rw [place,sg,this]
  rfl
 | H,i :: r,[],j,hn,hi,hl=>by simp at hl
theorem place_cases {α:Type} {H:List α} {ids:List Nat} {l:List α} (hn:ids.Nodup) (hi:∀ i ∈ ids,i < H.length) (hl:ids.length ≤ l.length) {x:Nat} {y:α} (h:(place H ids l)[x]? = some y) :
  (∃ j,x = sg ids H.length j ∧ l[j]? = some y) ∨ (x < H.length ∧ x ∉ ids ∧ H[x]? = some y):=by
 by_cases hx:x ∈ ids
 ·obtain ⟨j,hj,rfl⟩:=List.getElem_of_mem hx
  refine .inl ⟨j,(sg_lt hj).symm,?_⟩
  rw [← place_sg (j:=j) hn hi hl,sg_lt hj]
  exact h
 ·by_cases hlt:x < H.length
  ·exact .inr ⟨hlt,hx,by rw [← place_other hlt hx];exact h⟩
  ·have e:x = sg ids H.length (ids.length + (x - H.length)):=by rw [sg_ge (by omega)];omega
   refine .inl ⟨_,e,?_⟩
   rw [← place_sg hn hi hl,← e]
   exact h
structure ConC where
 G:Type
 pre:G → Prop
 H0:G → List HB
 args:G → List X
 H1:G → List HB
 res:G → X
 own:Bool
def argsX (e:E) (xs:List X) (vs:List Value):Prop:=xs.length = vs.length ∧ ∀ (i:Nat) x v,xs[i]? = some x → vs[i]? = some v → RelX e x v
def wrOf (cur:List K) (k:Nat):Prop:=∃ q ∈ cur,q.live = true ∧ q.mat = true ∧ q.blk = k
inductive ArgC (f:Nat → Nat) (h:Nat → Option HB) (own:Bool):X → X → Prop
 | same (x y:X) (hr:renX f y = some x):ArgC f h own x y
 | data (x:X) (d:Bool × List D) (hd:ArgLe h own x d):ArgC f h own x (.one (.p d.1 d.2))
inductive ArgsC (f:Nat → Nat) (h:Nat → Option HB) (own:Bool):List X → List X → Prop
 | nil:ArgsC f h own [] []
 | cons {x y:X} {xs ys:List X}:ArgC f h own x y → ArgsC f h own xs ys → ArgsC f h own (x :: xs) (y :: ys)
theorem ArgsC.get {f:Nat → Nat} {h:Nat → Option HB} {own:Bool}:∀ {xs ys:List X},ArgsC f h own xs ys → xs.length = ys.length ∧ ∀ (i:Nat) y,ys[i]? = some y → ∃ x,xs[i]? = some x ∧ ArgC f h own x y
 | _,_,.nil=>⟨rfl,fun i y h=>by cases h⟩
 | _,_,.cons hx hxs=>by
  obtain ⟨h1,h2⟩:=hxs.get
  refine ⟨by simp [h1],fun i y hy=>?_⟩
  cases i with
  | zero=>cases hy;exact ⟨_,rfl,hx⟩
  | succ i=>exact h2 i y hy
def hid (ids:List Nat) (H:List HB) (i:Nat):Option HB:=cond (ids.elem i) none H[i]?
def Emb (f:Nat → Nat) (H:List HB) (ids:List Nat) (Hs:List HB):Prop:=∃ Hs',mapO (renH f) Hs = some Hs' ∧ ids.map (fun i=>H[i]?) = Hs'.map some
theorem Emb.of {f:Nat → Nat} {H:List HB} {ids:List Nat} {Hs:List HB} (h:(mapO (renH f) Hs).map (·.map some) = some (ids.map fun i=>H[i]?)):Emb f H ids Hs:=by
 obtain ⟨Hs',h1,h2⟩:=Option.map_eq_some_iff.1 h
 exact ⟨Hs',h1,h2.symm⟩
theorem Emb.get {f:Nat → Nat} {H:List HB} {ids:List Nat} {Hs:List HB} (h:Emb f H ids Hs):ids.length = Hs.length ∧ ∀ (i:Nat) (hb:HB),Hs[i]? = some hb → ∃ j hb',ids[i]? = some j ∧ renH f hb = some hb' ∧ H[j]? = some hb':=by
 obtain ⟨Hs',h1,h2⟩:=h
 have hl:=mapO_len h1
 have hl2:ids.length = Hs'.length:=by simpa using congrArg List.length h2
 refine ⟨by omega,fun i hb hi=>?_⟩
 obtain ⟨hb',h3,h4⟩:=mapO_get h1 i hb hi
 have hlt:i < ids.length:=by rw [hl2];exact (List.getElem?_eq_some_iff.1 h4).1
 have h5:=congrArg (fun l=>l[i]?) h2
 simp only [List.getElem?_map,List.getElem?_eq_getElem hlt,Option.map_some,h4,Option.some.injEq] at h5
 exact ⟨ids[i],hb',List.getElem?_eq_getElem hlt,h3,h5⟩
section
variable {b:B} {cur:List K} {tk:TK} {s:St} {a:Act} {w:World} {P:Program}
theorem ids_lt {f:Nat → Nat} {H:List HB} {ids:List Nat} {Hs:List HB} (h:Emb f H ids Hs):∀ i ∈ ids,i < H.length:=by
 intro i hi
 obtain ⟨j,hj,rfl⟩:=List.getElem_of_mem hi
 obtain ⟨g1,g2⟩:=h.get
 obtain ⟨i',hb',h1,_,h3⟩:=g2 j Hs[j] (List.getElem?_eq_getElem (by omega))
 rw [List.getElem?_eq_getElem hj] at h1
 cases h1
 exact (List.getElem?_eq_some_iff.1 h3).1
def pickK (cur:List K) (ids:List Nat):List K:=ids.map fun i=>(cur[i]?).getD K.none
theorem pickK_get {ids:List Nat} (h:∀ i ∈ ids,i < cur.length) {j:Nat} (hj:j < ids.length):(pickK cur ids)[j]? = cur[ids[j]]?:=by
 have:=h _ (List.getElem_mem hj)
 simp [pickK,hj,this]
theorem pickK_mem {ids:List Nat} (h:∀ i ∈ ids,i < cur.length) {q:K} (hq:q ∈ pickK cur ids):∃ i ∈ ids,cur[i]? = some q:=by
 obtain ⟨i,hi,rfl⟩:=List.mem_map.1 hq
 refine ⟨i,hi,?_⟩
 simp [h i hi]
def giveB (b:B) (cur:List K) (tk:TK) (w:World) (own:Bool) (ids:List Nat):B:=⟨w,b.base,fun k=>k < w.heap.size ∧ (own = true ∨ okOf b cur tk w k),wrOf (pickK cur ids),pickK cur ids,TK.no⟩
theorem SimC.take (h:SimC b cur tk s a w) {ids:List Nat} {Hs H1 H1':List HB} {own:Bool} {cur1:List K} {tk1:TK} {w1:World} (hn:ids.Nodup) (he:Emb (sg ids s.H.length) s.H ids Hs)
  (h1:SimC (giveB b cur tk w own ids) cur1 tk1 ⟨[],H1,0,0,Hs.length⟩ ⟨#[],[]⟩ w1) (hl:Hs.length ≤ H1.length) (hr:mapO (renH (sg ids s.H.length)) H1 = some H1') (hf:own = true → ∀ g ∈ H1,FlatH g) :
  SimC b (place cur ids cur1) tk { s with H:=place s.H ids H1' } a w1 ∧
   ∀ (x x':X) (v:Value),(own = true → FlatX x) → renX (sg ids s.H.length) x = some x' → RelX (env (giveB b cur tk w own ids) cur1 tk1 w1) x v → RelX (env b (place cur ids cur1) tk w1) x' v:=by
 have hlt:∀ i ∈ ids,i < cur.length:=by rw [h.len];exact ids_lt he
 have hltH:∀ i ∈ ids,i < s.H.length:=ids_lt he
 obtain ⟨g1,g2⟩:=he.get
 have hc1:cur1.length = H1.length:=h1.len
 have hlc:ids.length ≤ cur1.length:=by omega
 have hr1:=mapO_len hr
 have hlH:ids.length ≤ H1'.length:=by omega
 have wrc:∀ k,wrOf (pickK cur ids) k → ∃ i ∈ ids,∃ q,cur[i]? = some q ∧ q.live = true ∧ q.mat = true ∧ q.blk = k:=by
  rintro k ⟨q,hq,h2,h3,h4⟩
  obtain ⟨i,h5,h6⟩:=pickK_mem hlt hq
  exact ⟨i,h5,q,h6,h2,h3,h4⟩
 have own1:∀ q ∈ cur1,q.live = true → q.mat = true → b.base ≤ q.blk ∧ ((∃ i ∈ ids,∃ r,cur[i]? = some r ∧ r.live = true ∧ r.mat = true ∧ r.blk = q.blk) ∨ w.heap.size ≤ q.blk):=by
  intro q hq h2 h3
  obtain ⟨h4,h5⟩:=h1.own q hq h2 h3
  exact ⟨h4,h5.imp (wrc _) id⟩
 have frm:∀ k,k < w.heap.size → (∀ i ∈ ids,∀ q,cur[i]? = some q → q.live = true → q.mat = true → q.blk ≠ k) → w1.heap[k]? = w.heap[k]?:=by
  intro k hk hh
  refine h1.frm k hk fun hw=>?_
  obtain ⟨i,h2,q,h3,h4,h5,h6⟩:=wrc k hw
  exact hh i h2 q h3 h4 h5 h6
 have frmOk:∀ k,okOf b cur tk w k → w1.heap[k]? = w.heap[k]?:=fun k hk=>frm k hk.2.1 fun i _ q hq hl hm=>hk.2.2.1 q (List.mem_of_getElem? hq) hl hm
 have memP:∀ q ∈ place cur ids cur1,q ∈ cur1 ∨ ∃ x,x ∉ ids ∧ cur[x]? = some q:=by
  intro q hq
  obtain ⟨x,hx⟩:=List.getElem?_of_mem hq
  rcases place_cases hn hlt hlc hx with ⟨j,_,h2⟩ | ⟨h2,h3,h4⟩
  ·exact .inl (List.mem_of_getElem? h2)
  ·exact .inr ⟨x,h3,h4⟩
 have szs:w.heap.size ≤ w1.heap.size:=h1.bel.size
 have okP:∀ k,okOf b cur tk w k → okOf b (place cur ids cur1) tk w1 k:=by
  intro k hk
  refine ⟨hk.1,Nat.lt_of_lt_of_le hk.2.1 szs,fun q hq hl hm e=>?_,hk.2.2.2⟩
  rcases memP q hq with hq | ⟨x,_,hq⟩
  ·rcases (own1 q hq hl hm).2 with ⟨i,_,r,h3,h4,h5,h6⟩ | h3
   ·exact hk.2.2.1 r (List.mem_of_getElem? h3) h4 h5 (by omega)
   ·have:=hk.2.1
    omega
  ·exact hk.2.2.1 q (List.mem_of_getElem? hq) hl hm e
 have hcp:∀ (i:Nat) k,cur1[i]? = some k → (place cur ids cur1)[sg ids s.H.length i]? = some k:=by
  intro i k hk
  rw [← h.len,place_sg hn hlt hlc]
  exact hk
 have le:(env b cur tk w).Le (env b (place cur ids cur1) tk w1):=by
  refine ⟨⟨okP,frmOk⟩,⟨fun x l hx=>⟨hx,frm x (h.tkB x l hx).2.2.1 fun i _ q hq hl hm=>(h.tkB x l hx).2.2.2 q (List.mem_of_getElem? hq) hl hm⟩,Nat.le_refl _,fun _ _=>rfl⟩,fun i k hk=>?_⟩
  have hk:cur[i]? = some k:=hk
  show ∃ k',(place cur ids cur1)[i]? = some k' ∧ _
  by_cases hi:i ∈ ids
  ·obtain ⟨j,hj,rfl⟩:=List.getElem_of_mem hi
   obtain ⟨k',h2,h3,h4⟩:=h1.cm j k (by show (pickK cur ids)[j]? = some k;rw [pickK_get hlt hj];exact hk)
   refine ⟨k',?_,h3,h4⟩
   rw [← hcp j k' h2,sg_lt hj]
  ·exact ⟨k,by rw [place_other (List.getElem?_eq_some_iff.1 hk).1 hi];exact hk,Nat.le_refl _,fun _ _=>rfl⟩
 have hm1:own = false → (mOf (giveB b cur tk w own ids) cur1 tk1 w1).Le (mOf b (place cur ids cur1) tk w1):=by
  intro ho
  refine ⟨fun k hk=>?_,fun _ _=>rfl⟩
  obtain ⟨h2,h3,h4,_⟩:=hk
  have h2:(k < w.heap.size ∧ (own = true ∨ okOf b cur tk w k)) ∨ w.heap.size ≤ k:=h2
  rcases h2 with ⟨_,h2 | h2⟩ | h2
  ·rw [ho] at h2;cases h2
  ·exact okP k h2
  ·refine ⟨.inr (Nat.le_trans h.bel.size h2),h3,fun q hq hl hm e=>?_,Option.eq_none_iff_forall_ne_some.2 fun l hl=>by have:=(h.tkB k l hl).2.2.1;omega⟩
   rcases memP q hq with hq | ⟨x,_,hq⟩
   ·exact h4 q hq hl hm e
   ·have:=(h.blk (List.mem_of_getElem? hq) hl hm).2
    omega
 have frmB:∀ k,k < b.w0.heap.size → ¬b.wr k → w1.heap[k]? = b.w0.heap[k]?:=by
  intro k hk hw
  refine (frm k (Nat.lt_of_lt_of_le hk h.bel.size) fun i _ q hq hl hm e=>?_).trans (h.frm k hk hw)
  rcases (h.own q (List.mem_of_getElem? hq) hl hm).2 with h2 | h2
  ·exact hw (by rw [← e];exact h2)
  ·omega
 refine ⟨⟨h.bel.trans h1.bel,frmB,h.bs,?_,fun i k g hk hg=>?_,fun i j k q hi hj hkl hql hkm hqm e=>?_,fun q hq hl hm=>?_,fun t=>(h.tmp t).mono le,h.size,h.dfr,h.tkI,fun t k ht=>?_,h.nm,h.ok0,cm_trans h.cm (fun i k _ hk=>le.cur i k hk),?_,h.m,h.iv.mono le.m⟩,fun x x' v hfx hrx hx=>?_⟩
 ·have e1:=place_len (H:=cur) hlc
  have e2:=place_len (H:=s.H) hlH
  have:=h.len
  show (place cur ids cur1).length = (place s.H ids H1').length
  omega
 ·have hg:(place s.H ids H1')[i]? = some g:=hg
  by_cases hi:i < cur.length ∧ i ∉ ids
  ·rw [place_other hi.1 hi.2] at hk
   rw [place_other (by rw [← h.len];exact hi.1) hi.2] at hg
   refine (h.heap i k g hk hg).mono le (fun hl hm=>⟨frm _ (h.blk (List.mem_of_getElem? hk) hl hm).2 fun x hx q hq hql hqm e=>?_,szs⟩)
   exact hi.2 (h.inj x i q k hq hk hql hl hqm hm e ▸ hx)
  ·rcases place_cases hn hlt hlc hk with ⟨j,rfl,h3⟩ | ⟨h2,h3,_⟩
   ·rw [h.len] at hg
    rw [place_sg hn hltH hlH] at hg
    obtain ⟨g0,h4,h5⟩:=mapO_back hr j g hg
    refine HRel.push (e:=env (giveB b cur tk w own ids) cur1 tk1 w1) (e':=env b (place cur ids cur1) tk w1) (f:=sg ids s.H.length) hcp rfl ?_ h5 (h1.heap j k g0 h3 h4)
    cases ho:own with
    | true=>exact .inr (hf ho g0 (List.mem_of_getElem? h4))
    | false=>rw [← ho];exact .inl (hm1 ho)
   ·exact absurd ⟨h2,h3⟩ hi
 ·rcases place_cases hn hlt hlc hi with ⟨i',rfl,h3⟩ | ⟨h2,h3,h4⟩ <;> rcases place_cases hn hlt hlc hj with ⟨j',rfl,h6⟩ | ⟨h5,h6,h7⟩
  ·rw [h1.inj i' j' k q h3 h6 hkl hql hkm hqm e]
  ·exfalso
   rcases (own1 k (List.mem_of_getElem? h3) hkl hkm).2 with ⟨x,hx,r,g3,g4,g5,g6⟩ | g3
   ·exact h6 (h.inj x j r q g3 h7 g4 hql g5 hqm (by omega) ▸ hx)
   ·have:=(h.blk (List.mem_of_getElem? h7) hql hqm).2
    omega
  ·exfalso
   rcases (own1 q (List.mem_of_getElem? h6) hql hqm).2 with ⟨x,hx,r,g3,g4,g5,g6⟩ | g3
   ·exact h3 (h.inj x i r k g3 h4 g4 hkl g5 hkm (by omega) ▸ hx)
   ·have:=(h.blk (List.mem_of_getElem? h4) hkl hkm).2
    omega
  ·exact h.inj i j k q h4 h7 hkl hql hkm hqm e
 ·rcases memP q hq with hq | ⟨x,_,hq⟩
  ·obtain ⟨h2,h3⟩:=own1 q hq hl hm
   refine ⟨h2,?_⟩
   rcases h3 with ⟨i,_,r,h3,h4,h5,h6⟩ | h3
   ·rw [← h6]
    exact (h.own r (List.mem_of_getElem? h3) h4 h5).2
   ·exact .inr (Nat.le_trans h.bel.size h3)
  ·exact h.own q (List.mem_of_getElem? hq) hl hm
 ·obtain ⟨g3,g4,g5,g6⟩:=h.tkB t k ht
  refine ⟨g3,g4,Nat.lt_of_lt_of_le g5 szs,fun q hq hl hm e=>?_⟩
  rcases memP q hq with hq | ⟨x,_,hq⟩
  ·rcases (own1 q hq hl hm).2 with ⟨i,_,r,h3,h4,h5,h6⟩ | h3
   ·exact g6 r (List.mem_of_getElem? h3) h4 h5 (by omega)
   ·omega
  ·exact g6 q (List.mem_of_getElem? hq) hl hm e
 ·have e1:=place_len (H:=cur) hlc
  have:=h.n0
  omega
 ·refine RelX.push (e:=env (giveB b cur tk w own ids) cur1 tk1 w1) (e':=env b (place cur ids cur1) tk w1) (f:=sg ids s.H.length) hcp ?_ hx hrx
  cases ho:own with
  | true=>exact .inr (hfx ho)
  | false=>rw [← ho];exact .inl (hm1 ho)
def zipX:List X → Nat → (List (Nat × X) → Prop) → Prop
 | [],_,Q=>Q []
 | x :: r,i,Q=>fX x fun x=>zipX r i.succ fun tm=>Q ((i,x) :: tm)
theorem zipX_eq:∀ (l:List X) (i:Nat) (Q:List (Nat × X) → Prop),zipX l i Q = Q ((l.zipIdx i).map fun p=>(p.2,p.1))
 | [],_,_=>rfl
 | d :: r,i,Q=>by
  rw [zipX,fX_eq,zipX_eq r]
  rfl
end
end Go.Proofs.YtijldkknhphgcaaGreat.Pv
end

section
/- Owned data: functions that are handed it, change it, or make it. No condition. -/
set_option linter.unusedVariables false
set_option linter.unusedSimpArgs false
namespace Go.Proofs.YtijldkknhphgcaaGreat.Pv
open Go.RowKit
structure ConM where
 G:Type
 pre:G → Prop
 args:G → List X
 after:G → List X
 res:G → X
def ValidM (P:Program) (f:FuncId) (c:ConM):Prop:=FnOk P f ∧
 ∀ (g:c.G),c.pre g → ∀ (w:World) (base:Nat) (ok:Nat → Prop) (tk0:TK) (vs:List Value),base ≤ w.heap.size → tk0.n = 1 →
  (∀ k,ok k → k < w.heap.size ∧ tk0 k = none) → (∀ x l,tk0 x = some l → l.1 = 0 ∧ base ≤ x ∧ x < w.heap.size) → Iv ⟨w,ok,tk0⟩ → argsX ⟨⟨w,ok,tk0⟩,[]⟩ (c.args g) vs →
  Calls P f vs.toArray w fun e w'=>∃ v,∃ tk':TK,e = .returned v ∧ Below base w w' ∧
   (∀ k,k < w.heap.size → tk0 k = none → w'.heap[k]? = w.heap[k]?) ∧ (tk'.n = 2 ∧ ∀ l,l.1 = 0 → tk'.v l = tk0.v l) ∧
   (∀ x l,tk' x = some l → l.1 ≤ 1 ∧ x < w'.heap.size ∧ (w.heap.size ≤ x ∨ ∃ l0,tk0 x = some l0)) ∧
   RelX ⟨⟨w',fun k=>w.heap.size ≤ k ∧ k < w'.heap.size ∧ tk' k = none,tk'⟩,[]⟩ (c.res g) v ∧
   argsX ⟨⟨w',fun k=>(ok k ∨ w.heap.size ≤ k) ∧ k < w'.heap.size ∧ tk' k = none,tk'⟩,[]⟩ (c.after g) vs
def mapS (f:Nat × Nat → Option (Nat × Nat)):S → Option S
 | .d x=>some (.d x)
 | .ow l d=>match f l with
  | some l'=>some (.ow l' d)
  | none=>none
 | _=>none
def mapV (f:Nat × Nat → Option (Nat × Nat)):V → Option V
 | .p ag ds=>some (.p ag ds)
 | .o ag ss=>match mapO (mapS f) ss with
  | some q=>some (.o ag q)
  | none=>none
 | .un=>some .un
def mapX (f:Nat × Nat → Option (Nat × Nat)):X → Option X
 | .one v=>match mapV f v with
  | some q=>some (.one q)
  | none=>none
 | .tup vs=>match mapO (mapV f) vs with
  | some q=>some (.tup q)
  | none=>none
section
variable {e e':E} {f:Nat × Nat → Option (Nat × Nat)}
theorem mapS_fwd (hm:e.toM.Le e'.toM) (ht:∀ l l',f l = some l' → l.1 < e.tk.n → l'.1 < e'.tk.n ∧ e'.tk.v l' = e.tk.v l ∧ ∀ x,e.tk x = some l → e'.tk x = some l' ∧ e'.w.heap[x]? = e.w.heap[x]?) {s s':S} {v:Value} (h:RelS e s v) (hr:mapS f s = some s'):RelS e' s' v:=by
 cases s with
 | d x=>cases hr;cases h with | d _ _ h=>exact .d _ _ (h.mono hm)
 | ow l d =>
  have hr:(match f l with | some l'=>some (S.ow l' d) | none=>none) = some s':=hr
  cases hl:f l with
  | none=>rw [hl] at hr;cases hr
  | some l' =>
   rw [hl] at hr
   cases hr
   cases h with
   | ow _ _ _ hn hv h =>
   obtain ⟨g1,g2,g3⟩:=ht l l' hl hn
   exact .ow l' d v g1 (g2.trans hv) (h.mono g3)
 | _=>cases hr
theorem mapS_bwd (hm:e.toM.Le e'.toM) (ht:∀ l l',f l = some l' → l'.1 < e.tk.n → l.1 < e'.tk.n ∧ e'.tk.v l = e.tk.v l' ∧ ∀ x,e.tk x = some l' → e'.tk x = some l ∧ e'.w.heap[x]? = e.w.heap[x]?) {s s':S} {v:Value} (h:RelS e s' v) (hr:mapS f s = some s'):RelS e' s v:=by
 cases s with
 | d x=>cases hr;cases h with | d _ _ h=>exact .d _ _ (h.mono hm)
 | ow l d =>
  have hr:(match f l with | some l'=>some (S.ow l' d) | none=>none) = some s':=hr
  cases hl:f l with
  | none=>rw [hl] at hr;cases hr
  | some l' =>
   rw [hl] at hr
   cases hr
   cases h with
   | ow _ _ _ hn hv h =>
   obtain ⟨g1,g2,g3⟩:=ht l l' hl hn
   exact .ow l d v g1 (g2.trans hv) (h.mono g3)
 | _=>cases hr
theorem mapV_fwd (hm:e.toM.Le e'.toM) (ht:∀ l l',f l = some l' → l.1 < e.tk.n → l'.1 < e'.tk.n ∧ e'.tk.v l' = e.tk.v l ∧ ∀ x,e.tk x = some l → e'.tk x = some l' ∧ e'.w.heap[x]? = e.w.heap[x]?) {s s':V} {v:Value} (h:RelV e s v) (hr:mapV f s = some s'):RelV e' s' v:=by
 cases s with
 | p ag ds=>cases hr;obtain ⟨vs,h1,h2⟩:=h;exact ⟨vs,h1.mono hm,h2⟩
 | un=>cases hr;trivial
 | o ag ss =>
  unfold mapV at hr
  simp only at hr
  split at hr
  ·rename_i q hq
   cases hr
   obtain ⟨vs,h1,h2⟩:=h
   refine ⟨vs,⟨(mapO_len hq).trans h1.1,fun i y x hy hx=>?_⟩,h2⟩
   obtain ⟨z,hz,hz2⟩:=mapO_back hq i y hy
   exact mapS_fwd hm ht (h1.2 i z x hz hx) hz2
  ·cases hr
theorem mapV_bwd (hm:e.toM.Le e'.toM) (ht:∀ l l',f l = some l' → l'.1 < e.tk.n → l.1 < e'.tk.n ∧ e'.tk.v l = e.tk.v l' ∧ ∀ x,e.tk x = some l' → e'.tk x = some l ∧ e'.w.heap[x]? = e.w.heap[x]?) {s s':V} {v:Value} (h:RelV e s' v) (hr:mapV f s = some s'):RelV e' s v:=by
 cases s with
 | p ag ds=>cases hr;obtain ⟨vs,h1,h2⟩:=h;exact ⟨vs,h1.mono hm,h2⟩
 | un=>trivial
 | o ag ss =>
  unfold mapV at hr
  simp only at hr
  split at hr
  ·rename_i q hq
   cases hr
   obtain ⟨vs,h1,h2⟩:=h
   refine ⟨vs,⟨(mapO_len hq).symm.trans h1.1,fun i z x hz hx=>?_⟩,h2⟩
   obtain ⟨y,hy,hy2⟩:=mapO_get hq i z hz
   exact mapS_bwd hm ht (h1.2 i y x hy2 hx) hy
  ·cases hr
theorem mapX_fwd (hm:e.toM.Le e'.toM) (ht:∀ l l',f l = some l' → l.1 < e.tk.n → l'.1 < e'.tk.n ∧ e'.tk.v l' = e.tk.v l ∧ ∀ x,e.tk x = some l → e'.tk x = some l' ∧ e'.w.heap[x]? = e.w.heap[x]?) {s s':X} {v:Value} (h:RelX e s v) (hr:mapX f s = some s'):RelX e' s' v:=by
 cases s with
 | one x =>
  unfold mapX at hr
  simp only at hr
  split at hr
  ·rename_i q hq
   cases hr
   exact mapV_fwd hm ht h hq
  ·cases hr
 | tup xs =>
  unfold mapX at hr
  simp only at hr
  split at hr
  ·rename_i q hq
   cases hr
   obtain ⟨vs,h1,h2,h3⟩:=h
   refine ⟨vs,h1,(mapO_len hq).trans h2,fun i y x hy hx=>?_⟩
   obtain ⟨z,hz,hz2⟩:=mapO_back hq i y hy
   exact mapV_fwd hm ht (h3 i z x hz hx) hz2
  ·cases hr
theorem mapX_bwd (hm:e.toM.Le e'.toM) (ht:∀ l l',f l = some l' → l'.1 < e.tk.n → l.1 < e'.tk.n ∧ e'.tk.v l = e.tk.v l' ∧ ∀ x,e.tk x = some l' → e'.tk x = some l ∧ e'.w.heap[x]? = e.w.heap[x]?) {s s':X} {v:Value} (h:RelX e s' v) (hr:mapX f s = some s'):RelX e' s v:=by
 cases s with
 | one x =>
  unfold mapX at hr
  simp only at hr
  split at hr
  ·rename_i q hq
   cases hr
   exact mapV_bwd hm ht h hq
  ·cases hr
 | tup xs =>
  unfold mapX at hr
  simp only at hr
  split at hr
  ·rename_i q hq
   cases hr
   obtain ⟨vs,h1,h2,h3⟩:=h
   refine ⟨vs,h1,(mapO_len hq).symm.trans h2,fun i z x hz hx=>?_⟩
   obtain ⟨y,hy,hy2⟩:=mapO_get hq i z hz
   exact mapV_bwd hm ht (h3 i y x hy2 hx) hy
  ·cases hr
end
end Go.Proofs.YtijldkknhphgcaaGreat.Pv
end

section
/- Owned data: calls of functions that are handed it, change it, or make it. No condition. -/
set_option linter.unusedVariables false
set_option linter.unusedSimpArgs false
namespace Go.Proofs.YtijldkknhphgcaaGreat.Pv
open Go.RowKit
def renL (ids:List (Nat × Nat)) (nx:Nat) (l:Nat × Nat):Option (Nat × Nat) :=
 match l with
 | (0,j)=>ids[j]?
 | (1,j)=>some (nx,j)
 | _=>none
def lookL:List ((Nat × Nat) × D) → Nat × Nat → Option D
 | [],_=>none
 | p :: r,l=>cond (Nat.beq p.1.1 l.1 && Nat.beq p.1.2 l.2) (some p.2) (lookL r l)
def notFn:S → Bool
 | .fn _ _ _=>false
 | _=>true
def upT (u:List ((Nat × Nat) × D)):S → S
 | .ow l d=>match lookL u l with
  | some d'=>.ow l d'
  | none=>.ow l d
 | s=>s
def upV (u:List ((Nat × Nat) × D)):V → V
 | .p ag ds=>.p ag ds
 | .o ag ss=>cond (ss.all notFn) (.o ag (ss.map (upT u))) .un
 | .un=>.un
def upX (u:List ((Nat × Nat) × D)):X → X
 | .one v=>.one (upV u v)
 | .tup vs=>.tup (vs.map (upV u))
def upH (u:List ((Nat × Nat) × D)):HB → HB
 | .c el sz rows=>.c el sz (rows.map (·.map (upT u)))
 | h=>h
def fnB:HB → Bool
 | .c _ _ rows=>rows.all fun r=>r.all notFn
 | _=>true
def upSt (u:List ((Nat × Nat) × D)) (s:St) (nx:Nat):St:=⟨s.tm.map fun p=>(p.1,upX u p.2),s.H.map (upH u),s.n,nx,s.m⟩
def owsS (ids:List (Nat × Nat)):S → List ((Nat × Nat) × D)
 | .ow (0,j) d=>match ids[j]? with
  | some l=>[(l,d)]
  | none=>[]
 | _=>[]
def owsV (ids:List (Nat × Nat)):V → List ((Nat × Nat) × D)
 | .o _ ss=>ss.flatMap (owsS ids)
 | _=>[]
def owsX (ids:List (Nat × Nat)):X → List ((Nat × Nat) × D)
 | .one v=>owsV ids v
 | .tup vs=>vs.flatMap (owsV ids)
def updL (ids:List (Nat × Nat)) (ys:List X):List ((Nat × Nat) × D):=ys.flatMap (owsX ids)
inductive ArgM (h:Nat → Option HB) (ids:List (Nat × Nat)) (nx:Nat):X → X → Prop
 | own (x y:X) (hr:mapX (renL ids nx) y = some x):ArgM h ids nx x y
 | data (x:X) (d:Bool × List D) (hi:ids = []) (hd:ArgLe h true x d):ArgM h ids nx x (.one (.p d.1 d.2))
inductive ArgsM (h:Nat → Option HB) (ids:List (Nat × Nat)) (nx:Nat):List X → List X → Prop
 | nil:ArgsM h ids nx [] []
 | cons {x y:X} {xs ys:List X}:ArgM h ids nx x y → ArgsM h ids nx xs ys → ArgsM h ids nx (x :: xs) (y :: ys)
theorem ArgsM.get {h:Nat → Option HB} {ids:List (Nat × Nat)} {nx:Nat}:∀ {xs ys:List X},ArgsM h ids nx xs ys → xs.length = ys.length ∧ ∀ (i:Nat) y,ys[i]? = some y → ∃ x,xs[i]? = some x ∧ ArgM h ids nx x y
 | _,_,.nil=>⟨rfl,fun i y h=>by cases h⟩
 | _,_,.cons hx hxs=>by
  obtain ⟨h1,h2⟩:=hxs.get
  refine ⟨by simp [h1],fun i y hy=>?_⟩
  cases i with
  | zero=>cases hy;exact ⟨_,rfl,hx⟩
  | succ i=>exact h2 i y hy
theorem lookL_mem {u:List ((Nat × Nat) × D)} {l:Nat × Nat} {d:D} (h:lookL u l = some d):(l,d) ∈ u:=by
 induction u with
 | nil=>cases h
 | cons p r ih =>
  have h:cond (Nat.beq p.1.1 l.1 && Nat.beq p.1.2 l.2) (some p.2) (lookL r l) = some d:=h
  cases hc:(Nat.beq p.1.1 l.1 && Nat.beq p.1.2 l.2) with
  | false=>rw [hc] at h;exact List.mem_cons_of_mem _ (ih h)
  | true =>
   rw [hc] at h
   rw [Bool.and_eq_true] at hc
   cases h
   have e:p.1 = l:=Prod.ext (Nat.eq_of_beq_eq_true hc.1) (Nat.eq_of_beq_eq_true hc.2)
   rw [← e]
   exact List.mem_cons_self ..
theorem owsS_mem {ids:List (Nat × Nat)} {s:S} {l:Nat × Nat} {d:D} (h:(l,d) ∈ owsS ids s):∃ j,ids[j]? = some l ∧ s = .ow (0,j) d:=by
 unfold owsS at h
 split at h
 ·rename_i j d0
  split at h
  ·rename_i l0 hl
   simp only [List.mem_singleton,Prod.mk.injEq] at h
   obtain ⟨rfl,rfl⟩:=h
   exact ⟨j,hl,rfl⟩
  ·cases h
 ·cases h
theorem owsV_rel {e:E} {ids:List (Nat × Nat)} {x:V} {v:Value} {l:Nat × Nat} {d:D} (h:(l,d) ∈ owsV ids x) (hr:RelV e x v):∃ j u,ids[j]? = some l ∧ RelS e (.ow (0,j) d) u:=by
 cases x with
 | p ag ds=>cases h
 | un=>cases h
 | o ag ss =>
  obtain ⟨s,hs,hm⟩:=List.mem_flatMap.1 h
  obtain ⟨j,hj,rfl⟩:=owsS_mem hm
  obtain ⟨vs,h1,h2⟩:=hr
  obtain ⟨i,hi,he⟩:=List.getElem_of_mem hs
  have hl:=h1.1
  exact ⟨j,vs[i],hj,h1.2 i _ _ (by rw [List.getElem?_eq_getElem hi,he]) (List.getElem?_eq_getElem (by omega))⟩
theorem owsX_rel {e:E} {ids:List (Nat × Nat)} {x:X} {v:Value} {l:Nat × Nat} {d:D} (h:(l,d) ∈ owsX ids x) (hr:RelX e x v):∃ j u,ids[j]? = some l ∧ RelS e (.ow (0,j) d) u:=by
 cases x with
 | one x=>exact owsV_rel h hr
 | tup xs =>
  obtain ⟨s,hs,hm⟩:=List.mem_flatMap.1 h
  obtain ⟨vs,h0,h1,h2⟩:=hr
  obtain ⟨i,hi,he⟩:=List.getElem_of_mem hs
  exact owsV_rel hm (h2 i s vs[i] (by rw [List.getElem?_eq_getElem hi,he]) (List.getElem?_eq_getElem (by omega)))
theorem updL_rel {e:E} {ids:List (Nat × Nat)} {ys:List X} {vs:List Value} {l:Nat × Nat} {d:D} (h:lookL (updL ids ys) l = some d) (hr:argsX e ys vs):∃ j u,ids[j]? = some l ∧ RelS e (.ow (0,j) d) u:=by
 obtain ⟨y,hy,hm⟩:=List.mem_flatMap.1 (lookL_mem h)
 obtain ⟨i,hi,he⟩:=List.getElem_of_mem hy
 have hl:=hr.1
 exact owsX_rel hm (hr.2 i y vs[i] (by rw [List.getElem?_eq_getElem hi,he]) (List.getElem?_eq_getElem (by omega)))
section
variable {e e':E} {u:List ((Nat × Nat) × D)}
structure UpOk (e e':E) (u:List ((Nat × Nat) × D)):Prop where
 m:e.toM.Le e'.toM
 cur:e'.cur = e.cur
 n:∀ l,l.1 < e.tk.n → l.1 < e'.tk.n ∧ e'.tk.v l = e.tk.v l
 old:∀ l d v,lookL u l = none → l.1 < e.tk.n → OwnD e.w (fun x=>e.tk x = some l) d v → OwnD e'.w (fun x=>e'.tk x = some l) d v
 new:∀ l d,lookL u l = some d → l.1 < e.tk.n → OwnD e'.w (fun x=>e'.tk x = some l) d (e.tk.v l)
theorem UpOk.s (h:UpOk e e' u) {x:S} {v:Value} (hr:RelS e x v) (hf:notFn x = true):RelS e' (upT u x) v:=by
 cases hr with
 | d x v hd=>exact .d x v (hd.mono h.m)
 | sl b off len top a c k hk ht hv hl=>exact .sl b off len top a c k (by rw [h.cur];exact hk) ht hv hl
 | pt b i j top a k hk ht hv=>exact .pt b i j top a k (by rw [h.cur];exact hk) ht hv
 | sp cells blk off vs hok hc hrl=>exact .sp cells blk off vs (h.m.ok _ hok) (fun j d hd=>(World.cell?_of_block (h.m.heap blk hok)).trans (hc j d hd)) (fun j d hd=>(hrl j d hd).mono h.m)
 | fn=>cases hf
 | mp b k r hk ht hv=>exact .mp b k r (by rw [h.cur];exact hk) ht hv
 | ow l d v hn hv ho =>
  obtain ⟨g1,g2⟩:=h.n l hn
  show RelS e' (match lookL u l with | some d'=>.ow l d' | none=>.ow l d) v
  cases hl:lookL u l with
  | none=>exact .ow l d v g1 (g2.trans hv) (h.old l d v hl hn ho)
  | some d' =>
   subst hv
   exact .ow l d' _ g1 g2 (h.new l d' hl hn)
theorem UpOk.v (h:UpOk e e' u) {x:V} {v:Value} (hr:RelV e x v):RelV e' (upV u x) v:=by
 cases x with
 | un=>trivial
 | p ag ds=>obtain ⟨vs,h1,h2⟩:=hr;exact ⟨vs,h1.mono h.m,h2⟩
 | o ag ss =>
  show RelV e' (cond (ss.all notFn) (.o ag (ss.map (upT u))) .un) v
  cases hc:ss.all notFn with
  | false=>trivial
  | true =>
   obtain ⟨vs,h1,h2⟩:=hr
   refine ⟨vs,⟨by rw [List.length_map];exact h1.1,fun i y x hy hx=>?_⟩,h2⟩
   rw [List.getElem?_map] at hy
   obtain ⟨z,hz,rfl⟩:=Option.map_eq_some_iff.1 hy
   exact h.s (h1.2 i z x hz hx) (List.all_eq_true.1 hc z (List.mem_of_getElem? hz))
theorem UpOk.x (h:UpOk e e' u) {x:X} {v:Value} (hr:RelX e x v):RelX e' (upX u x) v:=by
 cases x with
 | one x=>exact h.v hr
 | tup xs =>
  obtain ⟨vs,h0,h1,h2⟩:=hr
  refine ⟨vs,h0,by rw [List.length_map];exact h1,fun i y x hy hx=>?_⟩
  rw [List.getElem?_map] at hy
  obtain ⟨z,hz,rfl⟩:=Option.map_eq_some_iff.1 hy
  exact h.v (h2 i z x hz hx)
theorem UpOk.h (h:UpOk e e' u) {k:K} {g:HB} (hr:HRel e k g) (hf:fnB g = true) (hb:k.live = true → k.mat = true → e'.w.heap[k.blk]? = e.w.heap[k.blk]? ∧ e.w.heap.size ≤ e'.w.heap.size):HRel e' k (upH u g):=by
 cases g with
 | dead=>exact hr
 | p el sz rows =>
  have hr:Lies e k el sz (rows.map (·.map .d)):=hr
  refine (⟨hr.live,hr.size,hr.top,hr.len,fun hm=>?_,hr.nil,fun h1 hm=>?_⟩:Lies e' k el sz (rows.map (·.map .d)))
  ·obtain ⟨h1,h2,h3,arr,h4,h5,h6⟩:=hr.mat hm
   obtain ⟨g1,g2⟩:=hb hr.live hm
   refine ⟨by omega,h2,h3,arr,h4.mono g1,h5,fun i j x hx=>?_⟩
   obtain ⟨v,h7,h8⟩:=h6 i j x hx
   rw [cellAt_map] at hx
   obtain ⟨d,_,rfl⟩:=Option.map_eq_some_iff.1 hx
   exact ⟨v,h7,h.s h8 rfl⟩
  ·obtain ⟨h2,arr,h3⟩:=hr.fix h1 hm
   exact ⟨h2,arr,(hb hr.live hm).1.trans h3⟩
 | c el sz rows =>
  have hr:Lies e k el sz rows:=hr
  refine (⟨hr.live,hr.size,by simpa using hr.top,fun r hrm=>?_,fun hm=>?_,fun hm=>by simp [hr.nil hm],fun h1 hm=>?_⟩:Lies e' k el sz (rows.map (·.map (upT u))))
  ·obtain ⟨r0,h0,rfl⟩:=List.mem_map.1 hrm
   rw [List.length_map]
   exact hr.len r0 h0
  ·obtain ⟨h1,h2,h3,arr,h4,h5,h6⟩:=hr.mat hm
   obtain ⟨g1,g2⟩:=hb hr.live hm
   refine ⟨by omega,h2,by simpa using h3,arr,h4.mono g1,h5,fun i j x hx=>?_⟩
   rw [cellAt_map] at hx
   obtain ⟨y,hy,rfl⟩:=Option.map_eq_some_iff.1 hx
   obtain ⟨v,h7,h8⟩:=h6 i j y hy
   refine ⟨v,h7,h.s h8 ?_⟩
   obtain ⟨r,hr1,hr2⟩:=Option.bind_eq_some_iff.1 hy
   exact List.all_eq_true.1 (List.all_eq_true.1 (show (rows.all fun r=>r.all notFn) = true from hf) r (List.mem_of_getElem? hr1)) y (List.mem_of_getElem? hr2)
  ·obtain ⟨h2,arr,h3⟩:=hr.fix h1 hm
   exact ⟨by simpa using h2,arr,(hb hr.live hm).1.trans h3⟩
end
end Go.Proofs.YtijldkknhphgcaaGreat.Pv
end

section
/- Owned data: the rule of calls. No condition. -/
set_option linter.unusedVariables false
set_option linter.unusedSimpArgs false
namespace Go.Proofs.YtijldkknhphgcaaGreat.Pv
open Go.RowKit
section
variable {b:B} {cur:List K} {tk:TK} {s:St} {a:Act} {w:World} {P:Program}
theorem idx_of {ids:List (Nat × Nat)} (hn:ids.Nodup) {j:Nat} {l:Nat × Nat} (h:ids[j]? = some l):ids.idxOf l = j:=by
 obtain ⟨hj,rfl⟩:=List.getElem?_eq_some_iff.1 h
 exact List.Nodup.idxOf_getElem hn j hj
noncomputable def tkIn (ids:List (Nat × Nat)) (tk:TK):TK :=
 ⟨fun x=>match tk x with
  | some l=>if l ∈ ids then some (0,ids.idxOf l) else none
  | none=>none,fun l=>tk.v (ids.getD l.2 (0,0)),1⟩
noncomputable def tkOut (ids:List (Nat × Nat)) (nx:Nat) (tk tk':TK):TK :=
 ⟨fun x=>match tk' x with
  | some l=>renL ids nx l
  | none=>match tk x with
   | some l=>if l ∈ ids then none else some l
   | none=>none,fun l=>if l.1 < nx then tk.v l else tk'.v (1,l.2),nx + 1⟩
theorem tkIn_some {ids:List (Nat × Nat)} {x:Nat} {l:Nat × Nat} (h:tkIn ids tk x = some l):∃ m,tk x = some m ∧ m ∈ ids ∧ l = (0,ids.idxOf m):=by
 have h:(match tk x with | some l=>if l ∈ ids then some (0,ids.idxOf l) else none | none=>none) = some l:=h
 cases hx:tk x with
 | none=>rw [hx] at h;cases h
 | some m =>
  rw [hx] at h
  simp only at h
  split at h
  ·rename_i hm
   cases h
   exact ⟨m,rfl,hm,rfl⟩
  ·cases h
theorem tkIn_of {ids:List (Nat × Nat)} (hn:ids.Nodup) {x j:Nat} {l:Nat × Nat} (hj:ids[j]? = some l) (h:tk x = some l):tkIn ids tk x = some (0,j):=by
 show (match tk x with | some l=>if l ∈ ids then some (0,ids.idxOf l) else none | none=>none) = _
 rw [h]
 simp only
 rw [if_pos (List.mem_of_getElem? hj),idx_of hn hj]
theorem tkIn_none {ids:List (Nat × Nat)} {x:Nat} (h:tk x = none):tkIn ids tk x = none:=by
 show (match tk x with | some l=>if l ∈ ids then some (0,ids.idxOf l) else none | none=>none) = _
 rw [h]
theorem tkIn_other {ids:List (Nat × Nat)} {x:Nat} {l:Nat × Nat} (h:tk x = some l) (hl:l ∉ ids):tkIn ids tk x = none:=by
 show (match tk x with | some l=>if l ∈ ids then some (0,ids.idxOf l) else none | none=>none) = _
 rw [h]
 simp only
 rw [if_neg hl]
theorem tkOut_new {ids:List (Nat × Nat)} {nx x:Nat} {tk':TK} {l:Nat × Nat} (h:tk' x = some l):tkOut ids nx tk tk' x = renL ids nx l:=by
 show (match tk' x with | some l=>renL ids nx l | none=>_) = _
 rw [h]
theorem tkOut_old {ids:List (Nat × Nat)} {nx x:Nat} {tk':TK} {l:Nat × Nat} (h':tk' x = none) (h:tk x = some l) (hl:l ∉ ids):tkOut ids nx tk tk' x = some l:=by
 show (match tk' x with | some l=>renL ids nx l | none=>match tk x with | some l=>if l ∈ ids then none else some l | none=>none) = _
 rw [h',h]
 simp only
 rw [if_neg hl]
theorem tkOut_none {ids:List (Nat × Nat)} {nx x:Nat} {tk':TK} (h':tk' x = none) (h:tk x = none):tkOut ids nx tk tk' x = none:=by
 show (match tk' x with | some l=>renL ids nx l | none=>match tk x with | some l=>if l ∈ ids then none else some l | none=>none) = _
 rw [h',h]
theorem tkOut_some {ids:List (Nat × Nat)} {nx x:Nat} {tk':TK} {l:Nat × Nat} (h:tkOut ids nx tk tk' x = some l):(∃ m,tk' x = some m ∧ renL ids nx m = some l) ∨ (tk' x = none ∧ tk x = some l ∧ l ∉ ids):=by
 have h:(match tk' x with | some l=>renL ids nx l | none=>match tk x with | some l=>if l ∈ ids then none else some l | none=>none) = some l:=h
 cases hx:tk' x with
 | some m=>rw [hx] at h;exact .inl ⟨m,rfl,h⟩
 | none =>
  rw [hx] at h
  cases hy:tk x with
  | none=>rw [hy] at h;cases h
  | some m =>
   rw [hy] at h
   simp only at h
   split at h
   ·cases h
   ·rename_i hm
    cases h
    exact .inr ⟨rfl,rfl,hm⟩
theorem renL_some {ids:List (Nat × Nat)} {nx:Nat} {m l:Nat × Nat} (h:renL ids nx m = some l):(∃ j,m = (0,j) ∧ ids[j]? = some l) ∨ ∃ j,m = (1,j) ∧ l = (nx,j):=by
 obtain ⟨m1,m2⟩:=m
 match m1,h with
 | 0,h=>exact .inl ⟨m2,rfl,h⟩
 | 1,h=>cases h;exact .inr ⟨m2,rfl,rfl⟩
 | n + 2,h=>cases h
theorem call_tree0 {k:FuncId} {xs:List X} {s:St} {Q:X → St → Prop} (con:ConM) (g:con.G) (ids:List (Nat × Nat)) (hv:ValidM P k con) (hp:con.pre g) (hn:ids.Nodup) (hlt:∀ l ∈ ids,l.1 < s.nx) (hfn:s.H.all fnB = true)
  (hargs:ArgsM (fun i=>s.H[i]?) ids s.nx xs (con.args g)) (hid:∀ l ∈ ids,lookL (updL ids (con.after g)) l ≠ none) {x:X} (hx:mapX (renL ids s.nx) (con.res g) = some x) (hQ:Q x (upSt (updL ids (con.after g)) s (s.nx + 1))):callJ P k xs s Q:=by
 refine ⟨hv.1,fun b cur tk a w vs hs hl hrel=>?_⟩
 have hin:∀ y z,tkIn ids tk y = some z → z.1 = 0 ∧ b.base ≤ y ∧ y < w.heap.size:=by
  intro y z h
  obtain ⟨m,h1,h2,rfl⟩:=tkIn_some h
  obtain ⟨_,g2,g3,_⟩:=hs.tkB y m h1
  exact ⟨rfl,g2,g3⟩
 have hle:(mOf b cur tk w).Le ⟨w,fun k=>k < w.heap.size ∧ tkIn ids tk k = none,tkIn ids tk⟩:=⟨fun k hk=>⟨hk.2.1,tkIn_none hk.2.2.2⟩,fun _ _=>rfl⟩
 have hargsX:argsX ⟨⟨w,fun k=>k < w.heap.size ∧ tkIn ids tk k = none,tkIn ids tk⟩,[]⟩ (con.args g) vs:=by
  obtain ⟨h1,h2⟩:=hargs.get
  refine ⟨by omega,fun i y v hy hv=>?_⟩
  obtain ⟨x,h3,h4⟩:=h2 i y hy
  have h5:=hrel i x v h3 hv
  cases h4 with
  | own _ hr =>
   refine mapX_bwd (e:=env b cur tk w) (e':=⟨⟨w,fun k=>k < w.heap.size ∧ tkIn ids tk k = none,tkIn ids tk⟩,[]⟩) hle (fun l l' hf hl'=>?_) h5 hr
   rcases renL_some hf with ⟨j,rfl,hj⟩ | ⟨j,rfl,rfl⟩
   ·refine ⟨Nat.zero_lt_one,?_,fun x hx=>⟨tkIn_of hn hj hx,rfl⟩⟩
    show tk.v (ids.getD j (0,0)) = tk.v l'
    rw [List.getD_eq_getElem?_getD,hj]
    rfl
   ·exact absurd (Nat.lt_of_lt_of_le hl' hs.tkI.1) (Nat.lt_irrefl _)
  | data d hi hd =>
   obtain ⟨us,h6,h7⟩:=argLe_rel hs hs.known hd h5
   refine ⟨us,RelDL.mono (m:=⟨w,fun k=>k < w.heap.size ∧ (true = true ∨ okOf b cur tk w k),tk⟩) (m':=⟨w,fun k=>k < w.heap.size ∧ tkIn ids tk k = none,tkIn ids tk⟩) ⟨fun k hk=>⟨hk.1,?_⟩,fun _ _=>rfl⟩ h6,h7⟩
   cases hk2:tk k with
   | none=>exact tkIn_none hk2
   | some l=>exact tkIn_other hk2 (by rw [hi];exact List.not_mem_nil)
 refine Calls.mono (hv.2 g hp w b.base _ (tkIn ids tk) vs (Nat.le_trans hs.bs hs.bel.size) rfl (fun k hk=>hk) hin (hs.iv.mono hle) hargsX) ?_
 rintro e w' ⟨v,tk',rfl,hbel,hfrm,⟨hn2,hv2⟩,hlab,hres,haft⟩
 have szs:w.heap.size ≤ w'.heap.size:=hbel.size
 have hT:∀ y,tk y = none → y < w.heap.size → tk' y = none:=by
  intro y hy hlt'
  cases h:tk' y with
  | none=>rfl
  | some l =>
   rcases (hlab y l h).2.2 with h1 | ⟨l0,h1⟩
   ·omega
   ·rw [tkIn_none hy] at h1;cases h1
 have hT2:∀ y l,tk y = some l → l ∉ ids → tk' y = none:=by
  intro y l hy hni
  cases h:tk' y with
  | none=>rfl
  | some l' =>
   rcases (hlab y l' h).2.2 with h1 | ⟨l0,h1⟩
   ·have:=(hs.tkB y l hy).2.2.1;omega
   ·rw [tkIn_other hy hni] at h1;cases h1
 have hup:UpOk (env b cur tk w) (env b cur (tkOut ids s.nx tk tk') w') (updL ids (con.after g)):=by
  refine ⟨⟨fun j hj=>⟨hj.1,Nat.lt_of_lt_of_le hj.2.1 szs,hj.2.2.1,tkOut_none (hT j hj.2.2.2 hj.2.1) hj.2.2.2⟩,fun j hj=>hfrm j hj.2.1 (tkIn_none hj.2.2.2)⟩,rfl,fun l hl=>⟨?_,?_⟩,fun l d v hlk hl ho=>?_,fun l d hlk hl=>?_⟩
  ·show l.1 < s.nx + 1
   have:=hs.tkI.1
   have hl:l.1 < tk.n:=hl
   omega
  ·show (if l.1 < s.nx then tk.v l else tk'.v (1,l.2)) = tk.v l
   rw [if_pos (Nat.lt_of_lt_of_le hl hs.tkI.1)]
  ·have hni:l ∉ ids:=fun h=>hid l h hlk
   exact ho.mono fun y hy=>⟨tkOut_old (hT2 y l hy hni) hy hni,hfrm y (hs.tkB y l hy).2.2.1 (tkIn_other hy hni)⟩
  ·obtain ⟨j,u,hj,hr⟩:=updL_rel hlk haft
   cases hr with
   | ow _ _ _ hn0 hv0 ho =>
   have e1:u = tk.v l:=by
    rw [← hv0]
    refine (hv2 (0,j) rfl).trans ?_
    show tk.v (ids.getD j (0,0)) = tk.v l
    rw [List.getD_eq_getElem?_getD,hj]
    rfl
   rw [e1] at ho
   exact ho.mono fun y hy=>⟨(tkOut_new hy).trans hj,rfl⟩
 have hnew:∀ y,w.heap.size ≤ y → ∀ q ∈ cur,q.live = true → q.mat = true → q.blk ≠ y:=fun y hy q hq hl hm e=>by
  have:=(hs.blk hq hl hm).2
  omega
 refine ⟨v,x,_,cur,tkOut ids s.nx tk tk',rfl,hQ,rfl,?_,?_⟩
 ·refine ⟨hs.bel.trans hbel,fun j hj hw=>(hfrm j (Nat.lt_of_lt_of_le hj hs.bel.size) ?_).trans (hs.frm j hj hw),hs.bs,by simp [upSt,hs.len],fun i k hb hk hg=>?_,hs.inj,hs.own,fun t=>?_,hs.size,hs.dfr,⟨Nat.le_refl _,fun y l hy=>?_⟩,fun y l hy=>?_,⟨Nat.le_trans hs.nm.1 (Nat.le_trans hs.tkI.1 (Nat.le_succ _)),fun l hl=>(if_pos (Nat.lt_of_lt_of_le hl (Nat.le_trans hs.nm.1 hs.tkI.1))).trans (hs.nm.2 l hl)⟩,hs.ok0,hs.cm,hs.n0,hs.m,hs.iv.mono hup.m⟩
  ·cases h:tk j with
   | none=>exact tkIn_none h
   | some l =>
    rcases (hs.tkB j l h).1 with h1 | h1
    ·exact absurd h1 hw
    ·omega
  ·have hg:(s.H.map (upH (updL ids (con.after g))))[i]? = some hb:=hg
   rw [List.getElem?_map] at hg
   obtain ⟨g0,h1,rfl⟩:=Option.map_eq_some_iff.1 hg
   refine hup.h (hs.heap i k g0 hk h1) (List.all_eq_true.1 hfn g0 (List.mem_of_getElem? h1)) fun hl hm=>⟨hfrm _ (hs.blk (List.mem_of_getElem? hk) hl hm).2 ?_,szs⟩
   cases h:tk k.blk with
   | none=>exact tkIn_none h
   | some l=>exact absurd rfl ((hs.tkB _ l h).2.2.2 k (List.mem_of_getElem? hk) hl hm)
  ·have e:look (upSt (updL ids (con.after g)) s (s.nx + 1)).tm t = upX (updL ids (con.after g)) (look s.tm t):=by
    show look (s.tm.map fun p=>(p.1,upX (updL ids (con.after g)) p.2)) t = _
    generalize s.tm = tm
    induction tm with
    | nil=>rfl
    | cons p r ih =>
     show cond (Nat.beq p.1 t) _ (look _ t) = upX _ (cond (Nat.beq p.1 t) p.2 (look r t))
     cases Nat.beq p.1 t with
     | true=>rfl
     | false=>exact ih
   rw [e]
   exact hup.x (hs.tmp t)
  ·show l.1 < s.nx + 1
   rcases tkOut_some hy with ⟨m,h1,h2⟩ | ⟨h1,h2,h3⟩
   ·rcases renL_some h2 with ⟨j,rfl,hj⟩ | ⟨j,rfl,rfl⟩
    ·have:=hlt l (List.mem_of_getElem? hj);omega
    ·exact Nat.lt_succ_self _
   ·have h4:=hs.tkI.2 y l h2
    have h5:=hs.tkI.1
    omega
  ·rcases tkOut_some hy with ⟨m,h1,h2⟩ | ⟨h1,h2,h3⟩
   ·obtain ⟨g1,g2,g3⟩:=hlab y m h1
    rcases g3 with g3 | ⟨l0,g3⟩
    ·exact ⟨.inr (Nat.le_trans hs.bel.size g3),Nat.le_trans (Nat.le_trans hs.bs hs.bel.size) g3,g2,hnew y g3⟩
    ·obtain ⟨m',h4,_⟩:=tkIn_some g3
     obtain ⟨h5,h6,h7,h8⟩:=hs.tkB y m' h4
     exact ⟨h5,h6,g2,h8⟩
   ·obtain ⟨h5,h6,h7,h8⟩:=hs.tkB y l h2
    exact ⟨h5,h6,Nat.lt_of_lt_of_le h7 szs,h8⟩
 ·refine mapX_fwd (e:=⟨⟨w',fun k=>w.heap.size ≤ k ∧ k < w'.heap.size ∧ tk' k = none,tk'⟩,[]⟩) (e':=env b cur (tkOut ids s.nx tk tk') w') ⟨fun j hj=>⟨.inr (Nat.le_trans hs.bel.size hj.1),hj.2.1,hnew j hj.1,tkOut_none hj.2.2 ?_⟩,fun _ _=>rfl⟩ (fun l l' hf hl=>?_) hres hx
  ·cases h:tk j with
   | none=>rfl
   | some l=>have:=(hs.tkB j l h).2.2.1;have:=hj.1;omega
  ·rcases renL_some hf with ⟨j,rfl,hj⟩ | ⟨j,rfl,rfl⟩
   ·have h1:=hlt l' (List.mem_of_getElem? hj)
    refine ⟨Nat.lt_succ_of_lt h1,?_,fun y hy=>⟨(tkOut_new hy).trans hj,rfl⟩⟩
    show (if l'.1 < s.nx then tk.v l' else tk'.v (1,l'.2)) = tk'.v (0,j)
    rw [if_pos h1]
    refine Eq.trans ?_ (hv2 (0,j) rfl).symm
    show tk.v l' = tk.v (ids.getD j (0,0))
    rw [List.getD_eq_getElem?_getD,hj]
    rfl
   ·refine ⟨Nat.lt_succ_self _,?_,fun y hy=>⟨tkOut_new hy,rfl⟩⟩
    show (if s.nx < s.nx then tk.v (s.nx,j) else tk'.v (1,j)) = tk'.v (1,j)
    rw [if_neg (Nat.lt_irrefl _)]
def fTm:List (Nat × X) → (List (Nat × X) → Prop) → Prop
 | [],Q=>Q []
 | (t,x) :: r,Q=>fX x fun x=>fTm r fun r=>Q ((t,x) :: r)
theorem fTm_eq:∀ (tm:List (Nat × X)) (Q:List (Nat × X) → Prop),fTm tm Q = Q tm
 | [],Q=>rfl
 | (t,x) :: r,Q=>by rw [fTm,fX_eq,fTm_eq r]
def fRs:List (List S) → (List (List S) → Prop) → Prop
 | [],Q=>Q []
 | x :: r,Q=>fSs x fun x=>fRs r fun r=>Q (x :: r)
theorem fRs_eq:∀ (l:List (List S)) (Q:List (List S) → Prop),fRs l Q = Q l
 | [],Q=>rfl
 | x :: r,Q=>by rw [fRs,fSs_eq,fRs_eq r]
def fHr (x:HB) (Q:HB → Prop):Prop :=
 match x with
 | .c el sz rows=>fRs rows fun rows=>Q (.c el sz rows)
 | .p el sz rows=>Q (.p el sz rows)
 | .dead=>Q .dead
theorem fHr_eq (x:HB) (Q:HB → Prop):fHr x Q = Q x:=by
 cases x with
 | c el sz rows=>exact fRs_eq _ _
 | _=>rfl
def fHs:List HB → (List HB → Prop) → Prop
 | [],Q=>Q []
 | x :: r,Q=>fHr x fun x=>fHs r fun r=>Q (x :: r)
theorem fHs_eq:∀ (l:List HB) (Q:List HB → Prop),fHs l Q = Q l
 | [],Q=>rfl
 | x :: r,Q=>by rw [fHs,fHr_eq,fHs_eq r]
def upK (u:List ((Nat × Nat) × D)) (s:St) (Q:St → Prop):Prop:=match s with | ⟨tm,H,n,nx,m⟩=>fTm (tm.map fun p=>(p.1,upX u p.2)) fun tm=>fHs (H.map (upH u)) fun H=>Q ⟨tm,H,n,nx.succ,m⟩
theorem upK_eq (u:List ((Nat × Nat) × D)) (s:St) (Q:St → Prop):upK u s Q = Q (upSt u s (s.nx + 1)):=by
 obtain ⟨tm,H,n,nx,m⟩:=s
 unfold upK
 simp only [fTm_eq,fHs_eq]
 rfl
theorem call_tree {k:FuncId} {xs:List X} {s:St} {Q:X → St → Prop} (con:ConM) (g:con.G) (ids:List (Nat × Nat)) (hv:ValidM P k con) (hp:con.pre g) (hn:ids.Nodup) (hlt:(ids.all fun l=>Nat.blt l.1 s.nx) = true) (hfn:s.H.all fnB = true)
  (hargs:ArgsM (fun i=>s.H[i]?) ids s.nx xs (con.args g)) (hid:(ids.all fun l=>(lookL (updL ids (con.after g)) l).isSome) = true) {x:X} (hx:mapX (renL ids s.nx) (con.res g) = some x) (hQ:upK (updL ids (con.after g)) s fun s'=>Q x s'):callJ P k xs s Q :=
 call_tree0 con g ids hv hp hn (fun l hl=>Nat.le_of_ble_eq_true (List.all_eq_true.1 hlt l hl)) hfn hargs (fun l hl h=>by have:=List.all_eq_true.1 hid l hl;rw [h] at this;cases this) hx (by rw [upK_eq] at hQ;exact hQ)
end
end Go.Proofs.YtijldkknhphgcaaGreat.Pv
end

section
/- Owned data: functions that are handed it, change it, or make it, from their text. No condition. -/
set_option linter.unusedVariables false
set_option linter.unusedSimpArgs false
namespace Go.Proofs.YtijldkknhphgcaaGreat.Pv
open Go.RowKit
structure TreeR (f:Nat × Nat → Option (Nat × Nat)) (o:Nat × Nat) (rows:List (List S)) (ds:List (List D)):Prop where
 len:rows.length = ds.length
 cell:∀ (i j:Nat) d,cellAt ds i j = some d → (∃ x,cellAt rows i j = some (.d (.v x)) ∧ (d = .v x ∨ (x = .slice none 0 0 ∧ ∃ sz,d = .li none sz []))) ∨ ∃ l,cellAt rows i j = some (.ow l d) ∧ f l = some o
 row:∀ (i:Nat) r r',rows[i]? = some r → ds[i]? = some r' → r.length = r'.length
 inj:∀ (i j i' j':Nat) l d d',cellAt rows i j = some (.ow l d) → cellAt rows i' j' = some (.ow l d') → i = i' ∧ j = j'
section
variable {b:B} {cur:List K} {tk:TK} {s:St} {a:Act} {w:World} {P:Program}
theorem tree_own (h:SimC b cur tk s a w) {f:Nat × Nat → Option (Nat × Nat)} {o:Nat × Nat} {p:Nat → Prop} {c el sz top:Nat} {g:HB} {rows:List (List S)} {ds:List (List D)} {v:Value} (hg:s.H[c]? = some g) (hb:HBis g el sz rows) (ht:rows.length = top) (hf:el ≠ fixT)
  (hT:TreeR f o rows ds) (hp:∀ k,cur[c]? = some k → k.live = true → k.mat = true → p k.blk) (hp2:∀ x l,tk x = some l → f l = some o → p x) (hv:RelS (env b cur tk w) (.sl c 0 top top) v):OwnD w p (.li none sz ds) v:=by
 cases hv with
 | sl _ _ _ _ A C k hk htt hvv hlc =>
 have hL:Lies (env b cur tk w) k el sz rows:=by
  have:=h.heap c k g hk hg
  rcases hb with rfl | ⟨r,rfl,rfl⟩
  ·exact this
  ·exact this
 have hok:=hvv hL.live (by rw [hL.top];omega)
 unfold SlOk at hok
 have hlen:=hT.len
 split at hok
 ·rename_i hm
  obtain ⟨hcc,hA⟩:=hok
  have hA:=hA (.inl rfl)
  subst hA
  obtain ⟨m1,m2,m3,arr,m4,m5,m6⟩:=hL.mat hm
  obtain rfl:C = k.cap:=by omega
  have hz:∀ r ∈ ds,r.length = sz:=by
   intro r hr
   obtain ⟨i,hi,rfl⟩:=List.getElem_of_mem hr
   have h1:rows[i]'(by omega) ∈ rows:=List.getElem_mem _
   rw [← hT.row i _ _ (List.getElem?_eq_getElem (by omega)) (List.getElem?_eq_getElem hi)]
   exact hL.len _ h1
  have htop:top = ds.length:=by omega
  subst htop
  have key:=OwnD.li (w:=w) p sz ds k.blk k.cap el arr (fun i j=>(arr[i * sz + j]?).getD undef) (fun i j x=>∃ l d,cellAt rows i j = some (.ow l d) ∧ f l = some o ∧ tk x = some l) (hp k hk hL.live hm) m4 m5 m2 hf hlc hz
   (fun i j x ⟨l,d,h1,h2,h3⟩=>⟨hp2 x l h3 h2,fun e=>(h.tkB x l h3).2.2.2 k (List.mem_of_getElem? hk) hL.live hm e.symm⟩)
   (fun i j i' j' x ⟨l,d,h1,h2,h3⟩ ⟨l',d',h4,h5,h6⟩=>by
    rw [h3] at h6
    cases h6
    exact hT.inj i j i' j' l d d' h1 h4)
   (fun i j d hd=>by
    rcases hT.cell i j d hd with ⟨x,h1,_⟩ | ⟨l,h1,_⟩
    ·obtain ⟨u,h2,_⟩:=m6 i j _ h1
     rw [h2];rfl
    ·obtain ⟨u,h2,_⟩:=m6 i j _ h1
     rw [h2];rfl)
   (fun i j d hd=>by
    rcases hT.cell i j d hd with ⟨x,h1,h2⟩ | ⟨l,h1,h2⟩
    ·obtain ⟨u,h3,h4⟩:=m6 i j _ h1
     rw [h3]
     cases h4 with
     | d _ _ h4 =>
     cases h4 with
     | v _ h4 =>
     rcases h2 with rfl | ⟨rfl,sz',rfl⟩
     ·exact .v _ _ h4
     ·exact .nil _ _
    ·obtain ⟨u,h3,h4⟩:=m6 i j _ h1
     rw [h3]
     cases h4 with
     | ow _ _ _ hn hv h4=>exact h4.mono fun y hy=>⟨⟨l,d,h1,h2,hy⟩,rfl⟩)
  have e:(⟨k.blk,0 * k.sz,none⟩:Addr) = ⟨k.blk,0,none⟩:=by rw [Nat.zero_mul]
  rw [e]
  exact key
 ·rename_i hm
  have hr:=hL.nil (by simpa using hm)
  obtain ⟨rfl,rfl⟩:=hok
  subst hr
  have:ds = []:=List.eq_nil_of_length_eq_zero (by simpa using hlen.symm)
  subst this
  obtain rfl:top = 0:=by simpa using ht.symm
  exact .nil _ _
inductive CM (f:Nat × Nat → Option (Nat × Nat)) (ψ:Nat → Option (Nat × Nat)) (H:List HB) (o:Nat × Nat):S → S → Prop
 | v (x y:Value) (he:x = y):CM f ψ H o (.d (.v x)) (.d (.v y))
 | nil (sz:Nat):CM f ψ H o (.d (.v (.slice none 0 0))) (.ow o (.li none sz []))
 | ow (l:Nat × Nat) (d d':D) (hf:f l = some o) (he:d = d'):CM f ψ H o (.ow l d) (.ow o d')
 | sl (c el sz top:Nat) (g:HB) (rows:List (List S)) (ds:List (List D)) (hg:H[c]? = some g) (hb:HBis g el sz rows) (ht:rows.length = top) (hf:el ≠ fixT) (hc:ψ c = some o) (hT:TreeR f o rows ds):CM f ψ H o (.sl c 0 top top) (.ow o (.li none sz ds))
def CMs (f:Nat × Nat → Option (Nat × Nat)) (ψ:Nat → Option (Nat × Nat)) (H:List HB):Nat → List S → List S → Prop
 | _,[],[]=>True
 | j,x :: xs,y :: ys=>CM f ψ H (1,j) x y ∧ CMs f ψ H (j + 1) xs ys
 | _,_,_=>False
def flatX:X → Option (Bool × List S)
 | .one (.p ag ds)=>some (ag,ds.map .d)
 | .one (.o ag ss)=>some (ag,ss)
 | _=>none
def oneV:V → Option S
 | .p false [d]=>some (.d d)
 | .o false [s]=>some s
 | _=>none
inductive XM (f:Nat × Nat → Option (Nat × Nat)) (ψ:Nat → Option (Nat × Nat)) (H:List HB):X → X → Prop
 | one (x y:X) (ag:Bool) (ss ss':List S) (hx:flatX x = some (ag,ss)) (hy:flatX y = some (ag,ss')) (h:CMs f ψ H 0 ss ss'):XM f ψ H x y
 | tup (xs ys:List V) (ss ss':List S) (hx:mapO oneV xs = some ss) (hy:mapO oneV ys = some ss') (h:CMs f ψ H 0 ss ss'):XM f ψ H (.tup xs) (.tup ys)
theorem flatX_rel {e:E} {x:X} {ag:Bool} {ss:List S} {v:Value} (h:flatX x = some (ag,ss)):RelX e x v ↔ ∃ vs,RelSL e ss vs ∧ mkV ag vs = some v:=by
 cases x with
 | tup xs=>cases h
 | one x =>
  cases x with
  | un=>cases h
  | p ag ds =>
   cases h
   exact ⟨fun ⟨vs,h1,h2⟩=>⟨vs,RelSL.of_D h1,h2⟩,fun ⟨vs,h1,h2⟩=>⟨vs,RelSL.to_D h1,h2⟩⟩
  | o ag ss=>cases h;exact Iff.rfl
theorem oneV_rel {e:E} {x:V} {s:S} {v:Value} (h:oneV x = some s):RelV e x v ↔ RelS e s v:=by
 have one:∀ s:S,RelV e (.o false [s]) v ↔ RelS e s v:=fun s=>⟨fun h=>relX_s (x:=s) h,fun h=>relX_of_s (x:=s) h⟩
 unfold oneV at h
 split at h
 ·cases h
  rename_i d
  exact ⟨fun h=>.d d v (relX_d (x:=d) h),fun h=>by cases h with | d _ _ h=>exact relX_of_d h⟩
 ·cases h
  exact one _
 ·cases h
theorem CMs.get {f:Nat × Nat → Option (Nat × Nat)} {ψ:Nat → Option (Nat × Nat)} {H:List HB}:∀ {j:Nat} {xs ys:List S},CMs f ψ H j xs ys → xs.length = ys.length ∧ ∀ (i:Nat) x y,xs[i]? = some x → ys[i]? = some y → CM f ψ H (1,j + i) x y
 | _,[],[],_=>⟨rfl,fun i x y h=>by cases h⟩
 | j,x :: xs,y :: ys,h=>by
  obtain ⟨h1,h2⟩:=CMs.get h.2
  refine ⟨by simp [h1],fun i x y hx hy=>?_⟩
  cases i with
  | zero=>cases hx;cases hy;exact h.1
  | succ i =>
   have:=h2 i x y hx hy
   rw [show j + (i + 1) = j + 1 + i by omega]
   exact this
 | _,[],_ :: _,h=>h.elim
 | _,_ :: _,[],h=>h.elim
noncomputable def tkEnd (f:Nat × Nat → Option (Nat × Nat)) (ψ:Nat → Option (Nat × Nat)) (cur:List K) (tk tk0:TK) (vf:Nat → Value):TK :=
 ⟨fun x=>match tk x with
  | some l=>f l
  | none=>by
   classical
   exact if h:∃ (c:Nat) (k:K),cur[c]? = some k ∧ k.live = true ∧ k.mat = true ∧ k.blk = x then ψ h.choose else none,fun l=>if l.1 = 0 then tk0.v l else vf l.2,2⟩
theorem tkEnd_old {f:Nat × Nat → Option (Nat × Nat)} {ψ:Nat → Option (Nat × Nat)} {tk0:TK} {vf:Nat → Value} {x:Nat} {l:Nat × Nat} (h:tk x = some l):tkEnd f ψ cur tk tk0 vf x = f l:=by
 show (match tk x with | some l=>f l | none=>_) = _
 rw [h]
theorem tkEnd_blk (h:SimC b cur tk s a w) {f:Nat × Nat → Option (Nat × Nat)} {ψ:Nat → Option (Nat × Nat)} {tk0:TK} {vf:Nat → Value} {c:Nat} {k:K} (hk:cur[c]? = some k) (hl:k.live = true) (hm:k.mat = true):tkEnd f ψ cur tk tk0 vf k.blk = ψ c:=by
 have hn:tk k.blk = none:=by
  cases hx:tk k.blk with
  | none=>rfl
  | some l=>exact absurd rfl ((h.tkB _ l hx).2.2.2 k (List.mem_of_getElem? hk) hl hm)
 have hex:∃ (c:Nat) (q:K),cur[c]? = some q ∧ q.live = true ∧ q.mat = true ∧ q.blk = k.blk:=⟨c,k,hk,hl,hm,rfl⟩
 unfold tkEnd
 simp only [hn]
 rw [dif_pos hex]
 obtain ⟨q,h1,h2,h3,h4⟩:=hex.choose_spec
 rw [h.inj _ _ q k h1 hk h2 hl h3 hm h4]
theorem tkEnd_some {f:Nat × Nat → Option (Nat × Nat)} {ψ:Nat → Option (Nat × Nat)} {tk0:TK} {vf:Nat → Value} {x:Nat} {o:Nat × Nat} (h:tkEnd f ψ cur tk tk0 vf x = some o):(∃ l,tk x = some l ∧ f l = some o) ∨ (tk x = none ∧ ∃ c k,cur[c]? = some k ∧ k.live = true ∧ k.mat = true ∧ k.blk = x ∧ ψ c = some o):=by
 cases hx:tk x with
 | some l=>rw [tkEnd_old hx] at h;exact .inl ⟨l,rfl,h⟩
 | none =>
  unfold tkEnd at h
  simp only [hx] at h
  split at h
  ·rename_i hex
   obtain ⟨k,h1,h2,h3,h4⟩:=hex.choose_spec
   exact .inr ⟨rfl,_,k,h1,h2,h3,h4,h⟩
  ·cases h
end
end Go.Proofs.YtijldkknhphgcaaGreat.Pv
end

section
/- Owned data: the rules for functions. No condition. -/
set_option linter.unusedVariables false
set_option linter.unusedSimpArgs false
namespace Go.Proofs.YtijldkknhphgcaaGreat.Pv
open Go.RowKit
def noOw:X → Bool
 | .one (.p _ _)=>true
 | _=>false
def AftOk (s:St):Nat → List X → List X → Prop
 | _,[],[]=>True
 | i,x :: xs,y :: ys=>((noOw y = true ∧ x = y) ∨ (look s.tm i = y ∧ ∃ (ag:Bool) (ss ss':List S),x = .one (.o ag ss) ∧ y = .one (.o ag ss') ∧ ss.length = ss'.length ∧ ∀ (j:Nat) c c',ss[j]? = some c → ss'[j]? = some c' → (∃ u,c = .d u ∧ c' = .d u) ∨ ∃ m u u',c = .ow (0,m) u ∧ c' = .ow (0,m) u')) ∧ AftOk s (i + 1) xs ys
 | _,_,_=>False
def startM (l:List X) (n:Nat) (Q:St → Prop):Prop:=zipX l 0 fun tm=>Q ⟨tm,[],n,2,0⟩
theorem startM_eq (l:List X) (n:Nat) (Q:St → Prop):startM l n Q = Q ⟨l.zipIdx.map fun p=>(p.2,p.1),[],n,2,0⟩:=zipX_eq l 0 _
section
variable {P:Program}
def NmOk (f:Nat × Nat → Option (Nat × Nat)) (ψ:Nat → Option (Nat × Nat)):Prop:=(∀ j,f (0,j) = some (0,j)) ∧ (∀ l o,f l = some o → o.1 ≤ 1) ∧ ∀ c o,ψ c = some o → o.1 = 1
theorem end_core {w w':World} {base:Nat} {ok:Nat → Prop} {tk0 tk':TK} {cur':List K} {s':St} {a':Act} {f:Nat × Nat → Option (Nat × Nat)} {ψ:Nat → Option (Nat × Nat)} {args after:List X} {vs:List Value} {x y:X} {v:Value}
  (hok:∀ k,ok k → k < w.heap.size ∧ tk0 k = none) (htk:∀ x l,tk0 x = some l → l.1 = 0 ∧ base ≤ x ∧ x < w.heap.size) (hn1:tk0.n = 1) (hargs:argsX ⟨⟨w,ok,tk0⟩,[]⟩ args vs)
  (hs:SimC ⟨w,base,ok,fun x=>∃ l,tk0 x = some l,[],tk0⟩ cur' tk' s' a' w') (hnm:NmOk f ψ) (hx:XM f ψ s'.H x y) (ha:AftOk s' 0 args after) (hv:RelX (env ⟨w,base,ok,fun x=>∃ l,tk0 x = some l,[],tk0⟩ cur' tk' w') x v) :
  ∃ tkF:TK,(∀ k,k < w.heap.size → tk0 k = none → w'.heap[k]? = w.heap[k]?) ∧ (tkF.n = 2 ∧ ∀ l,l.1 = 0 → tkF.v l = tk0.v l) ∧ (∀ x l,tkF x = some l → l.1 ≤ 1 ∧ x < w'.heap.size ∧ (w.heap.size ≤ x ∨ ∃ l0,tk0 x = some l0)) ∧
   RelX ⟨⟨w',fun k=>w.heap.size ≤ k ∧ k < w'.heap.size ∧ tkF k = none,tkF⟩,[]⟩ y v ∧ argsX ⟨⟨w',fun k=>(ok k ∨ w.heap.size ≤ k) ∧ k < w'.heap.size ∧ tkF k = none,tkF⟩,[]⟩ after vs:=by
 -- the cells of what is given back
 have hcells:∃ (ss ss':List S) (us:List Value),RelSL (env ⟨w,base,ok,fun x=>∃ l,tk0 x = some l,[],tk0⟩ cur' tk' w') ss us ∧ CMs f ψ s'.H 0 ss ss' ∧ ∀ e:E,RelSL e ss' us → RelX e y v:=by
  cases hx with
  | one _ _ ag ss ss' hx hy h =>
   obtain ⟨us,h1,h2⟩:=(flatX_rel hx).1 hv
   exact ⟨ss,ss',us,h1,h,fun e he=>(flatX_rel hy).2 ⟨us,he,h2⟩⟩
  | tup xs ys ss ss' hx hy h =>
   obtain ⟨us,h1,h2,h3⟩:=hv
   have l1:=mapO_len hx
   have l2:=mapO_len hy
   have l3:=h.get.1
   refine ⟨ss,ss',us,⟨by omega,fun i s u hs hu=>?_⟩,h,fun e he=>⟨us,h1,by omega,fun i z u hz hu=>?_⟩⟩
   ·obtain ⟨z,hz,hz2⟩:=mapO_back hx i s hs
    exact (oneV_rel hz2).1 (h3 i z u hz hu)
   ·obtain ⟨s,hs1,hs2⟩:=mapO_get hy i z hz
    exact (oneV_rel hs1).2 (he.2 i s u hs2 hu)
 obtain ⟨ss,ss',us,hss,hcm,hback⟩:=hcells
 obtain ⟨hcl,hcg⟩:=hcm.get
 have szs:w.heap.size ≤ w'.heap.size:=hs.bel.size
 have hfrm:∀ k,k < w.heap.size → tk0 k = none → w'.heap[k]? = w.heap[k]?:=fun k hk h0=>hs.frm k hk (fun ⟨l,hl⟩=>by rw [h0] at hl;cases hl)
 have hlab:∀ x l,tkEnd f ψ cur' tk' tk0 (fun j=>us.getD j undef) x = some l → l.1 ≤ 1 ∧ x < w'.heap.size ∧ (w.heap.size ≤ x ∨ ∃ l0,tk0 x = some l0):=by
  intro x l hl
  rcases tkEnd_some hl with ⟨m,h1,h2⟩ | ⟨h1,c,k,h2,h3,h4,h5,h6⟩
  ·obtain ⟨g1,g2,g3,g4⟩:=hs.tkB x m h1
   exact ⟨hnm.2.1 m l h2,g3,g1.elim (fun h=>.inr h) .inl⟩
  ·have g1:=hs.blk (List.mem_of_getElem? h2) h3 h4
   obtain ⟨g2,g3⟩:=hs.own k (List.mem_of_getElem? h2) h3 h4
   rw [h5] at g1 g3
   exact ⟨by rw [hnm.2.2 c l h6];exact Nat.le_refl _,g1.2,g3.elim (fun h=>.inr h) .inl⟩
 refine ⟨tkEnd f ψ cur' tk' tk0 (fun j=>us.getD j undef),hfrm,⟨rfl,fun l hl=>if_pos hl⟩,hlab,hback _ ⟨hcl.symm.trans hss.1,fun i c u hc hu=>?_⟩,?_⟩
 ·have hi:i < ss.length:=by rw [hcl];exact (List.getElem?_eq_some_iff.1 hc).1
  have h1:=hcg i ss[i] c (List.getElem?_eq_getElem hi) hc
  have h2:=hss.2 i ss[i] u (List.getElem?_eq_getElem hi) hu
  rw [Nat.zero_add] at h1
  have hval:(tkEnd f ψ cur' tk' tk0 (fun j=>us.getD j undef)).v (1,i) = u:=by
   show (if (1:Nat) = 0 then tk0.v (1,i) else us.getD i undef) = u
   rw [if_neg (by omega),List.getD_eq_getElem?_getD,hu]
   rfl
  generalize ss[i] = cc at h1 h2
  cases h1 with
  | v x y he =>
   subst he
   cases h2 with
   | d _ _ h2 =>
   cases h2 with
   | v _ h2=>exact .d _ _ (.v _ h2)
  | nil sz =>
   cases h2 with
   | d _ _ h2 =>
   cases h2 with
   | v _ h2=>exact .ow _ _ _ (show 1 < 2 by omega) hval (.nil _ _)
  | ow l d d' hf he =>
   subst he
   cases h2 with
   | ow _ _ _ hn hv h2=>exact .ow _ _ _ (show 1 < 2 by omega) hval (h2.mono fun x hx=>⟨(tkEnd_old (tk:=tk') (tk0:=tk0) (vf:=fun j=>us.getD j undef) (cur:=cur') hx).trans hf,rfl⟩)
  | sl c el sz top g rows ds hg hb ht hf hcc hT =>
   exact .ow _ _ _ (show 1 < 2 by omega) hval (tree_own (p:=fun x=>tkEnd f ψ cur' tk' tk0 (fun j=>us.getD j undef) x = some (1,i)) hs hg hb ht hf hT (fun k hk hl hm=>(tkEnd_blk hs hk hl hm).trans hcc) (fun x l hx hfl=>(tkEnd_old (tk:=tk') (tk0:=tk0) (vf:=fun j=>us.getD j undef) (cur:=cur') hx).trans hfl) h2)
 ·have hF:∀ k,ok k → tkEnd f ψ cur' tk' tk0 (fun j=>us.getD j undef) k = none:=by
   intro k hk
   obtain ⟨h1,h2⟩:=hok k hk
   cases h:tkEnd f ψ cur' tk' tk0 (fun j=>us.getD j undef) k with
   | none=>rfl
   | some l =>
    rcases (hlab k l h).2.2 with h3 | ⟨l0,h3⟩
    ·omega
    ·rw [h2] at h3;cases h3
  have hmle:M.Le ⟨w,ok,tk0⟩ ⟨w',fun k=>(ok k ∨ w.heap.size ≤ k) ∧ k < w'.heap.size ∧ tkEnd f ψ cur' tk' tk0 (fun j=>us.getD j undef) k = none,tkEnd f ψ cur' tk' tk0 (fun j=>us.getD j undef)⟩ :=
   ⟨fun k hk=>⟨.inl hk,Nat.lt_of_lt_of_le (hok k hk).1 szs,hF k hk⟩,fun k hk=>hfrm k (hok k hk).1 (hok k hk).2⟩
  have key:∀ (xs ys:List X) (i:Nat),AftOk s' i xs ys → (∀ (j:Nat) x v,xs[j]? = some x → vs[i + j]? = some v → RelX ⟨⟨w,ok,tk0⟩,[]⟩ x v) → xs.length = ys.length ∧ ∀ (j:Nat) y v,ys[j]? = some y → vs[i + j]? = some v →
    RelX ⟨⟨w',fun k=>(ok k ∨ w.heap.size ≤ k) ∧ k < w'.heap.size ∧ tkEnd f ψ cur' tk' tk0 (fun j=>us.getD j undef) k = none,tkEnd f ψ cur' tk' tk0 (fun j=>us.getD j undef)⟩,[]⟩ y v:=by
   intro xs
   induction xs with
   | nil =>
    intro ys i h _
    cases ys with
    | nil=>exact ⟨rfl,fun j y v hy=>by cases hy⟩
    | cons y ys=>exact h.elim
   | cons x xs ih =>
    intro ys i h hr
    cases ys with
    | nil=>exact h.elim
    | cons y ys =>
    obtain ⟨h1,h2⟩:=h
    obtain ⟨g1,g2⟩:=ih ys (i + 1) h2 (fun j x v hx hv=>hr (j + 1) x v hx (by rw [show i + (j + 1) = i + 1 + j by omega];exact hv))
    refine ⟨by simp [g1],fun j y' v' hy hv'=>?_⟩
    cases j with
    | succ j=>exact g2 j y' v' hy (by rw [show i + 1 + j = i + (j + 1) by omega];exact hv')
    | zero =>
    cases hy
    have h0:=hr 0 x v' rfl hv'
    rcases h1 with ⟨h3,rfl⟩ | ⟨h3,ag,zs,zs',rfl,rfl,h4,h5⟩
    ·cases x with
     | tup _=>cases h3
     | one x =>
      cases x with
      | p ag ds=>obtain ⟨q,q1,q2⟩:=h0;exact ⟨q,q1.mono hmle,q2⟩
      | _=>cases h3
    ·obtain ⟨q,q1,q2⟩:=h0
     refine ⟨q,⟨h4.symm.trans q1.1,fun j c' u hc' hu=>?_⟩,q2⟩
     have hj:j < zs.length:=by rw [h4];exact (List.getElem?_eq_some_iff.1 hc').1
     have q3:=q1.2 j zs[j] u (List.getElem?_eq_getElem hj) hu
     rcases h5 j zs[j] c' (List.getElem?_eq_getElem hj) hc' with ⟨e,h6,rfl⟩ | ⟨m,e,e',h6,rfl⟩
     ·rw [h6] at q3
      cases q3 with
      | d _ _ q3=>exact .d _ _ (q3.mono hmle)
     ·rw [h6] at q3
      cases q3 with
      | ow _ _ _ hn hv0 q3 =>
      have hT:=hs.tmp i
      rw [h3] at hT
      obtain ⟨t,t1,_⟩:=hT
      have hjt:j < t.length:=by rw [← t1.1];exact (List.getElem?_eq_some_iff.1 hc').1
      have t2:=t1.2 j _ t[j] hc' (List.getElem?_eq_getElem hjt)
      cases t2 with
      | ow _ _ _ hn2 hv2 t2 =>
      have e1:tk'.v (0,m) = u:=by
       rw [← hv0]
       refine hs.nm.2 (0,m) ?_
       show 0 < tk0.n
       omega
      have e2:t[j] = u:=hv2.symm.trans e1
      rw [e2] at t2
      refine .ow _ _ _ (show 0 < 2 by omega) ?_ (t2.mono fun x hx=>⟨(tkEnd_old (tk:=tk') (tk0:=tk0) (vf:=fun j=>us.getD j undef) (cur:=cur') hx).trans (hnm.1 m),rfl⟩)
      show (if (0:Nat) = 0 then tk0.v (0,m) else us.getD m undef) = u
      rw [if_pos rfl]
      exact hv0
  have h:=key args after 0 ha (fun j x v hx hv=>hargs.2 j x v hx (by rw [Nat.zero_add] at hv;exact hv))
  exact ⟨h.1.symm.trans hargs.1,fun j y v hy hv=>h.2 j y v hy (by rw [Nat.zero_add];exact hv)⟩
end
end Go.Proofs.YtijldkknhphgcaaGreat.Pv
end

section
/- Owned data: functions as a whole. No condition. -/
set_option linter.unusedVariables false
set_option linter.unusedSimpArgs false
namespace Go.Proofs.YtijldkknhphgcaaGreat.Pv
open Go.RowKit
section
variable {P:Program}
theorem startM_sim {w:World} {base:Nat} {ok:Nat → Prop} {tk0:TK} {args:List X} {vs:List Value} {n:Nat} (hbase:base ≤ w.heap.size) (hn1:tk0.n = 1) (hok:∀ k,ok k → k < w.heap.size ∧ tk0 k = none) (htk:∀ x l,tk0 x = some l → l.1 = 0 ∧ base ≤ x ∧ x < w.heap.size)
  (hiv:Iv ⟨w,ok,tk0⟩) (hargs:argsX ⟨⟨w,ok,tk0⟩,[]⟩ args vs) (hle:args.length ≤ n) :
  SimC ⟨w,base,ok,fun x=>∃ l,tk0 x = some l,[],tk0⟩ [] tk0 ⟨args.zipIdx.map fun p=>(p.2,p.1),[],n,2,0⟩ ⟨vs.toArray ++ Array.replicate (n - vs.toArray.size) undef,[]⟩ w:=by
 obtain ⟨hal,har⟩:=hargs
 have hokk:∀ k,ok k → okOf ⟨w,base,ok,fun x=>∃ l,tk0 x = some l,[],tk0⟩ [] tk0 w k:=fun k hk=>⟨.inl hk,(hok k hk).1,fun q hq=>(by cases hq),(hok k hk).2⟩
 refine ⟨Below.refl _ _,fun _ _ _=>rfl,hbase,rfl,(fun i k h hk=>by cases hk),(fun i j k q hi=>by cases hi),(fun k hk=>by cases hk),fun t=>?_,by simp;omega,rfl,⟨by show tk0.n ≤ 2;omega,fun x l h=>by rw [(htk x l h).1];omega⟩,
  (fun x l h=>⟨.inl ⟨l,h⟩,(htk x l h).2.1,(htk x l h).2.2,fun q hq=>by cases hq⟩),⟨Nat.le_refl _,fun _ _=>rfl⟩,fun k hk=>(hok k hk).1,fun i k hk=>(by cases hk),Nat.zero_le _,Nat.zero_le _,Iv.mono (m:=⟨w,ok,tk0⟩) (m':=mOf ⟨w,base,ok,fun x=>∃ l,tk0 x = some l,[],tk0⟩ [] tk0 w) ⟨hokk,fun _ _=>rfl⟩ hiv⟩
 show RelX _ (look (args.zipIdx.map fun p=>(p.2,p.1)) t) _
 rw [look_zip,if_pos (Nat.zero_le _),Nat.sub_zero]
 cases hd:args[t]? with
 | none=>trivial
 | some d =>
  have htl:t < vs.length:=by
   rw [← hal]
   exact (List.getElem?_eq_some_iff.1 hd).1
  have e:(vs.toArray ++ Array.replicate (n - vs.toArray.size) undef).getD t undef = vs[t]:=by
   rw [Array.getD_eq_getD_getElem?,Array.getElem?_append_left (by simpa using htl)]
   simp [htl]
  rw [e]
  exact RelX.mono (e:=⟨⟨w,ok,tk0⟩,[]⟩) (e':=env ⟨w,base,ok,fun x=>∃ l,tk0 x = some l,[],tk0⟩ [] tk0 w) ⟨⟨hokk,fun _ _=>rfl⟩,TkLe.same _ _,fun i k hk=>by cases hk⟩ (har t d vs[t] hd (List.getElem?_eq_getElem htl))
def EndM (args after:List X) (y:X) (s:St) (x:X):Prop:=∃ (f:Nat × Nat → Option (Nat × Nat)) (ψ:Nat → Option (Nat × Nat)),NmOk f ψ ∧ XM f ψ s.H x y ∧ AftOk s 0 args after
theorem validM_intro {f:FuncId} {fn:Func} {c:Code} {ts:List Nat} (con:ConM) (hf:P.funcs[f]? = some fn) (hb:fn.body = some c) (hn:(fn.name == "runtime.NumGoroutine") = false)
  (ht:fn.results = (ts.map ResultVar.tmp).toArray) (hl:ts.length ≤ 3) (hle:∀ g,(con.args g).length ≤ fn.ntmps)
  (h:∀ g,con.pre g → startM (con.args g) fn.ntmps (W P c fun e s=>(e = .normal ∨ e = .ret) ∧ EndM (con.args g) (con.after g) (con.res g) s (resX s ts))):ValidM P f con:=by
 simp only [startM_eq] at h
 refine ⟨⟨fn,hf,hn,by simp [hb]⟩,fun g hpre w base ok tk0 vs hbase hn1 hok htk hiv hargs=>?_⟩
 refine calls_of_wp hf hb ?_
 have hsim:=startM_sim (n:=fn.ntmps) hbase hn1 hok htk hiv hargs (hle g)
 refine wp_mono ((h g hpre).1 _ _ w ⟨[],_,hsim⟩) ?_
 rintro e a' w' ⟨s',⟨he,ph,ps,hnm,hx,ha⟩,cur',tk',hs'⟩
 obtain ⟨v,hr,hv⟩:=resX_rel (P:=P) hs' ht hl
 obtain ⟨tkF,h1,h2,h3,h4,h5⟩:=end_core hok htk hn1 hargs hs' hnm hx ha hv
 rcases he with rfl | rfl
 ·exact ⟨hs'.dfr,v,hr,v,tkF,rfl,hs'.bel,h1,h2,h3,h4,h5⟩
 ·exact ⟨hs'.dfr,v,hr,v,tkF,rfl,hs'.bel,h1,h2,h3,h4,h5⟩
theorem cell_relC (T:Tb P) {b:B} {cur:List K} {tk:TK} {s:St} {a:Act} {w:World} (hs:SimC b cur tk s a w) {fn:Func} {r t q:Nat} {i:TI} {row:List S} (ht:fn.results = #[.cell r t]) (hi:T.tb t = some i) (hx:look s.tm r = .one (.o false [.pt q 0 0 1]))
  (hb:s.H[q]? = some (.c t i.n [row])) (hl:row.length = i.n):∃ v,(results fn a.tmps).run P w = .ok v w ∧ RelX (env b cur tk w) (.one (.o i.ag row)) v:=by
 have hT:=T.ok t i hi
 have h1:=hs.tmp r
 rw [hx] at h1
 have hS:=relX_s h1
 generalize he:a.tmps.getD r undef = u at hS
 cases hS with
 | pt _ _ _ _ ad k hkc htp hv =>
 have hL:Lies (env b cur tk w) k t i.n [row]:=hs.heap q k _ hkc hb
 obtain ⟨hm,rfl⟩:=hv hL.live (by rw [hL.top];rfl)
 obtain ⟨vs,hvl,hrel,hc⟩:=load_rows (j:=0) (n:=i.n) hL hm (r:=0) (row:=row) rfl (by simp [hl])
 obtain ⟨v,hmk⟩:=mkV_of hT hvl
 have hrun:=run_loadT hT _ vs v hvl hc hmk
 have hsub:sub row 0 i.n = row:=by unfold sub;simp [hl]
 rw [hsub] at hrel
 refine ⟨v,?_,vs,hrel,hmk⟩
 simp only [Instr.loadAt,Instr.sureAddr] at hrun
 rw [Array.getD_eq_getD_getElem?] at he
 simp [results,ht,he,asAddr]
 simpa using hrun
theorem validM_cell (T:Tb P) {f:FuncId} {fn:Func} {c:Code} {t r:Nat} {i:TI} (con:ConM) (hi:T.tb t = some i) (hf:P.funcs[f]? = some fn) (hb:fn.body = some c) (hn:(fn.name == "runtime.NumGoroutine") = false)
  (ht:fn.results = #[.cell r t]) (hle:∀ g,(con.args g).length ≤ fn.ntmps)
  (h:∀ g,con.pre g → startM (con.args g) fn.ntmps (W P c fun e s=>(e = .normal ∨ e = .ret) ∧ ∃ q row,look s.tm r = .one (.o false [.pt q 0 0 1]) ∧ s.H[q]? = some (.c t i.n [row]) ∧ row.length = i.n ∧ EndM (con.args g) (con.after g) (con.res g) s (.one (.o i.ag row)))):ValidM P f con:=by
 simp only [startM_eq] at h
 refine ⟨⟨fn,hf,hn,by simp [hb]⟩,fun g hpre w base ok tk0 vs hbase hn1 hok htk hiv hargs=>?_⟩
 refine calls_of_wp hf hb ?_
 have hsim:=startM_sim (n:=fn.ntmps) hbase hn1 hok htk hiv hargs (hle g)
 refine wp_mono ((h g hpre).1 _ _ w ⟨[],_,hsim⟩) ?_
 rintro e a' w' ⟨s',⟨he,q,row,hq,hb,hrl,ph,ps,hnm,hx,ha⟩,cur',tk',hs'⟩
 obtain ⟨v,hr,hv⟩:=cell_relC T hs' ht hi hq hb hrl
 obtain ⟨tkF,h1,h2,h3,h4,h5⟩:=end_core hok htk hn1 hargs hs' hnm hx ha hv
 rcases he with rfl | rfl
 ·exact ⟨hs'.dfr,v,hr,v,tkF,rfl,hs'.bel,h1,h2,h3,h4,h5⟩
 ·exact ⟨hs'.dfr,v,hr,v,tkF,rfl,hs'.bel,h1,h2,h3,h4,h5⟩
def cellL (l:Nat × Nat):D → S
 | .v x=>.d (.v x)
 | d=>.ow l d
def labR (lb:Nat → Nat → Nat × Nat) (rows:List (List D)):List (List S):=rows.mapIdx fun i r=>r.mapIdx fun j d=>cellL (lb i j) d
theorem labR_len {lb:Nat → Nat → Nat × Nat} {rows:List (List D)}:(labR lb rows).length = rows.length:=by simp [labR]
theorem labR_cell {lb:Nat → Nat → Nat × Nat} {rows:List (List D)} {i j:Nat}:cellAt (labR lb rows) i j = (cellAt rows i j).map (cellL (lb i j)):=by
 unfold cellAt labR
 rw [List.getElem?_mapIdx]
 cases rows[i]? with
 | none=>rfl
 | some r=>simp [List.getElem?_mapIdx]
theorem labR_row {lb:Nat → Nat → Nat × Nat} {rows:List (List D)} {n:Nat} (h:∀ r ∈ rows,r.length = n):∀ r ∈ labR lb rows,r.length = n:=by
 intro r hr
 obtain ⟨i,hi,rfl⟩:=List.getElem_of_mem hr
 simp only [labR,List.getElem_mapIdx,List.length_mapIdx]
 exact h _ (List.getElem_mem _)
theorem cellL_ow {l m:Nat × Nat} {d d':D} (h:cellL l d = .ow m d'):m = l ∧ d' = d:=by
 cases d <;> cases h <;> exact ⟨rfl,rfl⟩
theorem tree_lab {f:Nat × Nat → Option (Nat × Nat)} {o:Nat × Nat} {lb:Nat → Nat → Nat × Nat} {rows:List (List D)} {sz:Nat} (hz:∀ r ∈ rows,r.length = sz) (hf:∀ i j,f (lb i j) = some o) (hi:∀ i j i' j',j < sz → j' < sz → lb i j = lb i' j' → i = i' ∧ j = j'):TreeR f o (labR lb rows) rows:=by
 have lt:∀ {i j:Nat} {d:D},cellAt rows i j = some d → j < sz:=by
  intro i j d hd
  obtain ⟨r,h1,h2⟩:=Option.bind_eq_some_iff.1 hd
  have:=hz r (List.mem_of_getElem? h1)
  have:=(List.getElem?_eq_some_iff.1 h2).1
  omega
 refine ⟨labR_len,fun i j d hd=>?_,fun i r r' hr hr'=>?_,fun i j i' j' l d d' h1 h2=>?_⟩
 ·rw [labR_cell,hd]
  cases d with
  | v x=>exact .inl ⟨x,rfl,.inl rfl⟩
  | li tk sz rows=>exact .inr ⟨_,rfl,hf i j⟩
  | ic t ag x=>exact .inr ⟨_,rfl,hf i j⟩
 ·rw [hz r' (List.mem_of_getElem? hr'),labR_row hz r (List.mem_of_getElem? hr)]
 ·rw [labR_cell] at h1 h2
  obtain ⟨e,h3,h4⟩:=Option.map_eq_some_iff.1 h1
  obtain ⟨e',h5,h6⟩:=Option.map_eq_some_iff.1 h2
  obtain ⟨g1,_⟩:=cellL_ow h4
  obtain ⟨g2,_⟩:=cellL_ow h6
  exact hi i j i' j' (lt h3) (lt h5) (g1.symm.trans g2)
end
end Go.Proofs.YtijldkknhphgcaaGreat.Pv
end

section
/- Owned data: functions that change a list. No condition. -/
set_option linter.unusedVariables false
set_option linter.unusedSimpArgs false
namespace Go.Proofs.YtijldkknhphgcaaGreat.Pv
open Go.RowKit
def lb0 (sz i j:Nat):Nat × Nat:=(0,i * sz + j)
theorem lb0_inj {sz i j i' j':Nat} (h1:j < sz) (h2:j' < sz) (h:lb0 sz i j = lb0 sz i' j'):i = i' ∧ j = j':=by
 have h:i * sz + j = i' * sz + j':=congrArg Prod.snd h
 by_cases hi:i = i'
 ·subst hi
  exact ⟨rfl,by omega⟩
 ·exact absurd h (mul_add_ne hi h1 h2)
def startL (el sz:Nat) (rows:List (List D)) (rest:List (Bool × List D)) (n:Nat) (Q:St → Prop):Prop:=zipF rest 1 fun tm=>Q ⟨(0,.one (.o false [.sl 0 0 rows.length rows.length])) :: tm,[.c el sz (labR (lb0 sz) rows)],n,2,1⟩
theorem startL_eq (el sz:Nat) (rows:List (List D)) (rest:List (Bool × List D)) (n:Nat) (Q:St → Prop):startL el sz rows rest n Q = Q ⟨(0,.one (.o false [.sl 0 0 rows.length rows.length])) :: (((rest.map toX).zipIdx 1).map fun p=>(p.2,p.1)),[.c el sz (labR (lb0 sz) rows)],n,2,1⟩:=zipF_eq rest 1 _
section
variable {P:Program}
theorem validM_list {f:FuncId} {fn:Func} {c:Code} {r:Nat} (con:ConM) (sz:Nat) (rows rows':con.G → List (List D)) (rest:con.G → List (Bool × List D)) (resv:con.G → Value)
  (hA:∀ g,con.args g = .one (.o false [.ow (0,0) (.li none sz (rows g))]) :: (rest g).map toX) (hB:∀ g,con.after g = .one (.o false [.ow (0,0) (.li none sz (rows' g))]) :: (rest g).map toX) (hR:∀ g,con.res g = .one (.p false [.v (resv g)]))
  (hf:P.funcs[f]? = some fn) (hb:fn.body = some c) (hn:(fn.name == "runtime.NumGoroutine") = false) (ht:fn.results = ([r].map ResultVar.tmp).toArray) (hle:∀ g,(rest g).length + 1 ≤ fn.ntmps)
  (h:∀ g,con.pre g → ∀ el,el ≠ fixT → startL el sz (rows g) (rest g) fn.ntmps (W P c fun e s=>(e = .normal ∨ e = .ret) ∧ look s.tm r = .one (.p false [.v (resv g)]) ∧ ∃ hb rs,s.H[0]? = some hb ∧ HBis hb el sz rs ∧ rs.length = (rows g).length ∧ TreeR (fun _=>some (0,0)) (0,0) rs (rows' g))):ValidM P f con:=by
 simp only [startL_eq] at h
 refine ⟨⟨fn,hf,hn,by simp [hb]⟩,fun g hpre w base ok tk0 vs hbase hn1 hok htk hiv hargs=>?_⟩
 refine calls_of_wp hf hb ?_
 rw [hA g] at hargs
 rw [hB g,hR g]
 obtain ⟨hal,har⟩:=hargs
 have hle:=hle g
 have hlen:vs.length = (rest g).length + 1:=by simpa using hal.symm
 obtain ⟨v0,vr,rfl⟩:∃ v0 vr,vs = v0 :: vr:=by
  cases vs with
  | nil=>simp at hlen
  | cons v0 vr=>exact ⟨v0,vr,rfl⟩
 have h0:=relX_s (har 0 _ v0 rfl rfl)
 have hrest:∀ (i:Nat) d v,(rest g)[i]? = some d → vr[i]? = some v → RelX ⟨⟨w,ok,tk0⟩,[]⟩ (toX d) v:=fun i d v hd hv=>har (i + 1) (toX d) v (by simp [hd]) (by simpa using hv)
 cases h0 with
 | ow _ _ _ hn0 hv0 hO =>
 -- the list as a block of ours
 have hopen:∃ (el:Nat) (k0:K) (tkS:TK),el ≠ fixT ∧ k0.live = true ∧ k0.top = (rows g).length + 1 ∧ (k0.mat = true → tk0 k0.blk = some (0,0)) ∧ (∀ x l,tkS x = some l → (∃ l0,tk0 x = some l0) ∧ l.1 = 0 ∧ (k0.mat = true → k0.blk ≠ x)) ∧ tkS.n = 1 ∧
   (∃ (A:Option Addr) (C:Nat),v0 = .slice A (rows g).length C ∧ SlOk k0 0 A C ∧ (rows g).length ≤ C) ∧ HRel (env ⟨w,base,ok,fun x=>∃ l,tk0 x = some l,[k0],TK.no⟩ [k0] tkS w) k0 (.c el sz (labR (lb0 sz) (rows g))):=by
  generalize rows g = rws at hO
  generalize hli:D.li none sz rws = dd at hO
  cases hO with
  | v=>cases hli
  | nil _ sz' =>
   cases hli
   refine ⟨fixT + 1,⟨0,sz,0,1,true,false⟩,tk0,by omega,rfl,rfl,(fun h=>by cases h),(fun x l hx=>⟨⟨l,hx⟩,(htk x l hx).1,(fun h=>by cases h)⟩),hn1,⟨none,0,rfl,(by unfold SlOk;rw [if_neg (fun h=>by cases h)];exact ⟨rfl,rfl⟩),Nat.le_refl _⟩,?_⟩
   show Lies _ _ _ _ _
   exact ⟨rfl,rfl,rfl,(fun r hr=>by cases hr),(fun h=>by cases h),fun _=>rfl,fun _ h=>by cases h⟩
  | li _ sz' rows blk C el arr us q hb1 hr1 hs1 hc1 hf1 hl1 hz1 hq1 hd1 hv1 hx1 =>
   cases hli
   classical
   let tkS:TK:=⟨fun x=>if x = blk then none else if h:∃ ij:Nat × Nat,(∃ d,cellAt rws ij.1 ij.2 = some d) ∧ q ij.1 ij.2 x then some (lb0 sz h.choose.1 h.choose.2) else none,fun l=>us (l.2 / sz) (l.2 % sz),1⟩
   have hS:∀ x l,tkS x = some l → x ≠ blk ∧ ∃ i j,q i j x ∧ l = lb0 sz i j:=by
    intro x l hx
    have hx:(if x = blk then none else if h:∃ ij:Nat × Nat,(∃ d,cellAt rws ij.1 ij.2 = some d) ∧ q ij.1 ij.2 x then some (lb0 sz h.choose.1 h.choose.2) else none) = some l:=hx
    split at hx
    ·cases hx
    ·rename_i hne
     split at hx
     ·rename_i hex
      cases hx
      exact ⟨hne,_,_,hex.choose_spec.2,rfl⟩
     ·cases hx
   have hS2:∀ (i j:Nat) d x,cellAt rws i j = some d → q i j x → tkS x = some (lb0 sz i j):=by
    intro i j d x hd hx
    show (if x = blk then none else if h:∃ ij:Nat × Nat,(∃ d,cellAt rws ij.1 ij.2 = some d) ∧ q ij.1 ij.2 x then some (lb0 sz h.choose.1 h.choose.2) else none) = _
    rw [if_neg (hq1 i j x hx).2]
    have hex:∃ ij:Nat × Nat,(∃ d,cellAt rws ij.1 ij.2 = some d) ∧ q ij.1 ij.2 x:=⟨(i,j),⟨d,hd⟩,hx⟩
    rw [dif_pos hex]
    obtain ⟨e1,e2⟩:=hd1 _ _ _ _ x hex.choose_spec.2 hx
    rw [e1,e2]
   have hblk:blk < w.heap.size:=hr1.lt
   refine ⟨el,⟨blk,sz,C,rws.length + 1,true,true⟩,tkS,hf1,rfl,rfl,fun _=>hb1,fun x l hx=>?_,rfl,⟨_,_,rfl,by unfold SlOk;rw [if_pos rfl];exact ⟨Nat.zero_add _,fun _=>by rw [Nat.zero_mul]⟩,hl1⟩,?_⟩
   ·obtain ⟨h1,i,j,h2,rfl⟩:=hS x l hx
    exact ⟨⟨_,(hq1 i j x h2).1⟩,rfl,fun _=>Ne.symm h1⟩
   ·show Lies _ _ _ _ _
    refine ⟨rfl,rfl,(by show rws.length + 1 = _;rw [labR_len]),labR_row hz1,fun _=>⟨hblk,hc1,(by rw [labR_len];exact hl1),arr,hr1,hs1,fun i j y hy=>?_⟩,(fun h=>by cases h),fun h=>absurd h hf1⟩
    rw [labR_cell] at hy
    obtain ⟨d,hd,rfl⟩:=Option.map_eq_some_iff.1 hy
    refine ⟨us i j,hv1 i j d hd,?_⟩
    have hj:j < sz:=by
     obtain ⟨r,g1,g2⟩:=Option.bind_eq_some_iff.1 hd
     have:=hz1 r (List.mem_of_getElem? g1)
     have:=(List.getElem?_eq_some_iff.1 g2).1
     omega
    have hval:tkS.v (lb0 sz i j) = us i j:=by
     show us ((i * sz + j) / sz) ((i * sz + j) % sz) = us i j
     have e1:(i * sz + j) / sz = i:=by
      rw [Nat.mul_comm,Nat.mul_add_div (by omega),Nat.div_eq_of_lt hj,Nat.add_zero]
     have e2:(i * sz + j) % sz = j:=by
      rw [Nat.mul_comm,Nat.mul_add_mod,Nat.mod_eq_of_lt hj]
     rw [e1,e2]
    have hx2:=hx1 i j d hd
    have big:∀ d,cellAt rws i j = some d → OwnD w (q i j) d (us i j) → RelS (env ⟨w,base,ok,fun x=>∃ l,tk0 x = some l,[⟨blk,sz,C,rws.length + 1,true,true⟩],TK.no⟩ [⟨blk,sz,C,rws.length + 1,true,true⟩] tkS w) (.ow (lb0 sz i j) d) (us i j) :=
     fun d hd h=>.ow _ _ _ (Nat.zero_lt_one) hval (h.mono fun x hx=>⟨hS2 i j d x hd hx,rfl⟩)
    cases d with
    | v x =>
     generalize us i j = u at hx2
     cases hx2 with
     | v _ _ h1=>exact .d _ _ (.v _ h1)
    | li tk sz rows=>exact big _ hd hx2
    | ic t ag x=>exact big _ hd hx2
 obtain ⟨el,k0,tkS,hel,hl0,htop,hmat,hlab,hSn,⟨A,C,rfl,hsl,hnC⟩,hH⟩:=hopen
 have hokk:∀ k,ok k → okOf ⟨w,base,ok,fun x=>∃ l,tk0 x = some l,[k0],TK.no⟩ [k0] tkS w k:=fun k hk=>by
  refine ⟨.inl hk,(hok k hk).1,fun q hq hl hm e=>?_,?_⟩
  ·rw [List.mem_singleton] at hq
   subst hq
   have h1:=hmat hm
   rw [e,(hok k hk).2] at h1
   cases h1
  ·cases hx:tkS k with
   | none=>rfl
   | some l =>
    obtain ⟨⟨l0,h1⟩,_⟩:=hlab k l hx
    rw [(hok k hk).2] at h1
    cases h1
 have hle1:M.Le ⟨w,ok,tk0⟩ (mOf ⟨w,base,ok,fun x=>∃ l,tk0 x = some l,[k0],TK.no⟩ [k0] tkS w):=⟨hokk,fun _ _=>rfl⟩
 have hslot:∀ (e:E),e.cur[0]? = some k0 → RelS e (.sl 0 0 (rows g).length (rows g).length) (.slice A (rows g).length C):=fun e he=>.sl 0 0 _ _ A C k0 he (by omega) (fun _ _=>hsl) hnC
 have hsim:SimC ⟨w,base,ok,fun x=>∃ l,tk0 x = some l,[k0],TK.no⟩ [k0] tkS ⟨(0,.one (.o false [.sl 0 0 (rows g).length (rows g).length])) :: (((rest g).map toX).zipIdx 1).map fun p=>(p.2,p.1),[.c el sz (labR (lb0 sz) (rows g))],fn.ntmps,2,1⟩
   ⟨(Value.slice A (rows g).length C :: vr).toArray ++ Array.replicate (fn.ntmps - (Value.slice A (rows g).length C :: vr).toArray.size) undef,[]⟩ w:=by
  refine ⟨Below.refl _ _,fun _ _ _=>rfl,hbase,rfl,(fun i k h hk hh=>?_),(fun i j k q hi hj _ _ _ _ _=>?_),(fun k hk hl hm=>?_),fun t=>?_,by simp at hlen ⊢;omega,rfl,⟨by show tkS.n ≤ 2;omega,fun x l h=>by rw [(hlab x l h).2.1];omega⟩,
   (fun x l h=>?_),⟨Nat.zero_le _,fun _ h=>absurd h (Nat.not_lt_zero _)⟩,fun k hk=>(hok k hk).1,fun i k hk=>⟨k,hk,Nat.le_refl _,fun _ _=>rfl⟩,Nat.le_refl _,Nat.le_refl _,Iv.mono (m:=⟨w,ok,tk0⟩) hle1 hiv⟩
  ·match i,hk,hh with
   | 0,hk,hh=>cases hk;cases hh;exact hH
   | i + 1,hk,_=>cases hk
  ·match i,j,hi,hj with
   | 0,0,_,_=>rfl
   | 0,j + 1,_,hj=>cases hj
   | i + 1,_,hi,_=>cases hi
  ·rw [List.mem_singleton] at hk
   subst hk
   exact ⟨(htk _ _ (hmat hm)).2.1,.inl ⟨_,hmat hm⟩⟩
  ·show RelX _ (look ((0,_) :: _) t) _
   rw [look_put]
   by_cases h0:0 = t
   ·subst h0
    rw [if_pos rfl]
    have e:((Value.slice A (rows g).length C :: vr).toArray ++ Array.replicate (fn.ntmps - (Value.slice A (rows g).length C :: vr).toArray.size) undef).getD 0 undef = .slice A (rows g).length C:=by
     rw [Array.getD_eq_getD_getElem?,Array.getElem?_append_left (by simp)]
     simp
    rw [e]
    exact relX_of_s (hslot _ rfl)
   ·rw [if_neg h0,look_zip]
    split
    ·cases hd:((rest g).map toX)[t - 1]? with
     | none=>trivial
     | some x =>
      rw [List.getElem?_map] at hd
      obtain ⟨d,hd2,rfl⟩:=Option.map_eq_some_iff.1 hd
      have htl:t - 1 < vr.length:=by
       have:=(List.getElem?_eq_some_iff.1 hd2).1
       simp at hlen
       omega
      have e:((Value.slice A (rows g).length C :: vr).toArray ++ Array.replicate (fn.ntmps - (Value.slice A (rows g).length C :: vr).toArray.size) undef).getD t undef = vr[t - 1]:=by
       obtain ⟨u,rfl⟩:∃ u,t = u + 1:=⟨t - 1,by omega⟩
       rw [Array.getD_eq_getD_getElem?,Array.getElem?_append_left (by simp at htl ⊢;omega)]
       simp at htl ⊢
       simp [htl]
      rw [e]
      obtain ⟨us,h1,h2⟩:=hrest (t - 1) d vr[t - 1] hd2 (List.getElem?_eq_getElem htl)
      exact ⟨us,RelDL.mono (m:=⟨w,ok,tk0⟩) hle1 h1,h2⟩
    ·trivial
  ·obtain ⟨⟨l0,h1⟩,h2,h3⟩:=hlab x l h
   refine ⟨.inl ⟨l0,h1⟩,(htk x l0 h1).2.1,(htk x l0 h1).2.2,fun q hq hl hm=>?_⟩
   rw [List.mem_singleton] at hq
   subst hq
   exact h3 hm
 refine wp_mono ((h g hpre el hel).1 _ _ w ⟨[k0],_,hsim⟩) ?_
 rintro e a' w' ⟨s',⟨he,hx,hb',rs,hg,hbi,hrl,hT⟩,cur',tk',hs'⟩
 have htl:([r]:List Nat).length ≤ 3:=by simp
 obtain ⟨v,hr,hv⟩:=resX_rel (P:=P) hs' ht htl
 have hv:RelX _ (look s'.tm r) v:=hv
 rw [hx] at hv
 obtain ⟨k',hk',ht',hsame⟩:=hs'.cm 0 k0 rfl
 have hL:Lies (env ⟨w,base,ok,fun x=>∃ l,tk0 x = some l,[k0],TK.no⟩ cur' tk' w') k' el sz rs:=by
  have:=hs'.heap 0 k' hb' hk' hg
  rcases hbi with rfl | ⟨r,rfl,rfl⟩
  ·exact this
  ·exact this
 obtain rfl:k' = k0:=hsame hL.live (by rw [hL.top,htop,hrl])
 have szs:w.heap.size ≤ w'.heap.size:=hs'.bel.size
 classical
 let tkF:TK:=⟨fun x=>if (∃ l,tk' x = some l) ∨ (k'.mat = true ∧ k'.blk = x) then some (0,0) else none,tk0.v,2⟩
 have hF1:∀ x,(∃ l,tk' x = some l) ∨ (k'.mat = true ∧ k'.blk = x) → tkF x = some (0,0):=fun x hx=>if_pos hx
 have hF2:∀ x l,tkF x = some l → ((∃ l,tk' x = some l) ∨ (k'.mat = true ∧ k'.blk = x)) ∧ l = (0,0):=by
  intro x l hx
  have hx:(if (∃ l,tk' x = some l) ∨ (k'.mat = true ∧ k'.blk = x) then some (0,0) else none) = some l:=hx
  split at hx
  ·rename_i hc;cases hx;exact ⟨hc,rfl⟩
  ·cases hx
 have hlabF:∀ x l,tkF x = some l → l.1 ≤ 1 ∧ x < w'.heap.size ∧ (w.heap.size ≤ x ∨ ∃ l0,tk0 x = some l0):=by
  intro x l hx
  obtain ⟨h1,rfl⟩:=hF2 x l hx
  refine ⟨Nat.zero_le _,?_⟩
  rcases h1 with ⟨m,h1⟩ | ⟨h1,rfl⟩
  ·obtain ⟨g1,g2,g3,g4⟩:=hs'.tkB x m h1
   exact ⟨g3,g1.elim .inr .inl⟩
  ·exact ⟨(hs'.blk (List.mem_of_getElem? hk') hl0 h1).2,.inr ⟨_,hmat h1⟩⟩
 have hfrm:∀ k,k < w.heap.size → tk0 k = none → w'.heap[k]? = w.heap[k]?:=fun k hk h0=>hs'.frm k hk (fun ⟨l,hl⟩=>by rw [h0] at hl;cases hl)
 have hOF:OwnD w' (fun x=>tkF x = some (0,0)) (.li none sz (rows' g)) (.slice A (rows g).length C) :=
  tree_own (p:=fun x=>tkF x = some (0,0)) hs' hg hbi hrl hel hT (fun k hk hl hm=>by
   rw [hk'] at hk
   cases hk
   exact hF1 _ (.inr ⟨hm,rfl⟩)) (fun x l hx _=>hF1 x (.inl ⟨l,hx⟩)) (hslot _ hk')
 have hFok:∀ k,ok k → tkF k = none:=by
  intro k hk
  cases hx:tkF k with
  | none=>rfl
  | some l =>
   rcases (hlabF k l hx).2.2 with h1 | ⟨l0,h1⟩
   ·have:=(hok k hk).1;omega
   ·rw [(hok k hk).2] at h1;cases h1
 have hfin:∃ tkF:TK,(∀ k,k < w.heap.size → tk0 k = none → w'.heap[k]? = w.heap[k]?) ∧ (tkF.n = 2 ∧ ∀ l,l.1 = 0 → tkF.v l = tk0.v l) ∧ (∀ x l,tkF x = some l → l.1 ≤ 1 ∧ x < w'.heap.size ∧ (w.heap.size ≤ x ∨ ∃ l0,tk0 x = some l0)) ∧
   RelX ⟨⟨w',fun k=>w.heap.size ≤ k ∧ k < w'.heap.size ∧ tkF k = none,tkF⟩,[]⟩ (.one (.p false [.v (resv g)])) v ∧ argsX ⟨⟨w',fun k=>(ok k ∨ w.heap.size ≤ k) ∧ k < w'.heap.size ∧ tkF k = none,tkF⟩,[]⟩ (.one (.o false [.ow (0,0) (.li none sz (rows' g))]) :: (rest g).map toX) (Value.slice A (rows g).length C :: vr):=by
  obtain ⟨rfl,h1⟩:=relX_v hv
  refine ⟨tkF,hfrm,⟨rfl,fun l _=>rfl⟩,hlabF,relX_of_v h1,by simpa using hal,fun i x u hx hu=>?_⟩
  cases i with
  | zero =>
   cases hx
   cases hu
   exact relX_of_s (.ow _ _ _ (show 0 < 2 by omega) hv0 hOF)
  | succ i =>
   rw [List.getElem?_cons_succ,List.getElem?_map] at hx
   obtain ⟨d,hd,rfl⟩:=Option.map_eq_some_iff.1 hx
   obtain ⟨us,g1,g2⟩:=hrest i d u hd (by simpa using hu)
   exact ⟨us,RelDL.mono (m:=⟨w,ok,tk0⟩) (m':=⟨w',fun k=>(ok k ∨ w.heap.size ≤ k) ∧ k < w'.heap.size ∧ tkF k = none,tkF⟩) ⟨fun k hk=>⟨.inl hk,Nat.lt_of_lt_of_le (hok k hk).1 szs,hFok k hk⟩,fun k hk=>hfrm k (hok k hk).1 (hok k hk).2⟩ g1,g2⟩
 obtain ⟨tkF,h1,h2,h3,h4,h5⟩:=hfin
 rcases he with rfl | rfl
 ·exact ⟨hs'.dfr,v,hr,v,tkF,rfl,hs'.bel,h1,h2,h3,h4,h5⟩
 ·exact ⟨hs'.dfr,v,hr,v,tkF,rfl,hs'.bel,h1,h2,h3,h4,h5⟩
end
end Go.Proofs.YtijldkknhphgcaaGreat.Pv
end
