/- The document's reader of drawn bytes: l1Open, next, left, l1DrawLimb, l1DrawNat. Conditions: the bytes can be read. -/
import Derived.Test.YtlpckbleokoiiaaZHntext
set_option linter.unusedVariables false
set_option linter.unusedSimpArgs false
namespace Go.Proofs.Ytlpckbleokoiiaa.Hand
open Go.RowKit Go.Proofs.YtlpckbleokoiiaaW.PrintWords Go.Proofs.YtlpckbleokoiiaaW.PrintLast Go.Proofs.YtlpckbleokoiiaaW.PrintMore
/-- Each element is a byte. -/
def Bytes (l : List Int) : Prop := ∀ x ∈ l, 0 ≤ x ∧ x ≤ 255
/-- A reader in block g, made since w0, over bytes that came in. -/
structure RdSt (w0 w : World) (g : Nat) (A : Option Addr) (n c : Nat) (l : List Int) : Prop where
  box : ∃ p : Nat, p ≤ n ∧ Blk w g 101 #[.slice A n c, .int .i64 (p : Int)]
  below : Below w0.heap.size w0 w
  lo : w0.heap.size ≤ g
  code : (Kd.int .u8).C w0 A n l
  bytes : Bytes l
theorem RdSt.lt {w0 w : World} {g : Nat} {A : Option Addr} {n c : Nat} {l : List Int} (h : RdSt w0 w g A n c l) : g < w.heap.size := by
  obtain ⟨p, _, hb⟩ := h.box
  exact hb.lt
theorem RdSt.below_ {w0 w w' : World} {g : Nat} {A : Option Addr} {n c : Nat} {l : List Int} (h : RdSt w0 w g A n c l) (hb : Below w.heap.size w w') : RdSt w0 w' g A n c l := by
  obtain ⟨p, hp, hk⟩ := h.box
  exact ⟨⟨p, hp, hk.below hb hk.lt⟩, h.below.trans (hb.mono h.below.size), h.lo, h.code, h.bytes⟩
theorem RdSt.grown {w0 w w' : World} {g : Nat} {A : Option Addr} {n c : Nat} {l : List Int} (h : RdSt w0 w g A n c l) {row : Option Nat} (hg : w.grownBy w' row) (hn : some g ≠ row) (hr : ∀ k, row = some k → w0.heap.size ≤ k) : RdSt w0 w' g A n c l := by
  obtain ⟨p, hp, hk⟩ := h.box
  exact ⟨⟨p, hp, hk.grown hg hn⟩, h.below.grown hg h.below.size hr, h.lo, h.code, h.bytes⟩
/-- What next leaves. -/
def NextPost (w0 w : World) (g : Nat) (A : Option Addr) (n c : Nat) (l : List Int) (e : Ending) (w' : World) : Prop :=
  ∃ k : Int, e = .returned (.int .i64 k) ∧ (0 ≤ k ∧ k ≤ 255) ∧ RdSt w0 w' g A n c l ∧ Kept w w' (fun b => b = g)
theorem l1Open_calls (A : Option Addr) (n c : Nat) (l : List Int) (w0 w : World) (hb : Below w0.heap.size w0 w) (hr : (Kd.int .u8).C w0 A n l) (hl : Bytes l) :
    Calls Try.prog 32 #[.slice A n c] w fun e w' => e = .returned (.pointer (some ⟨w.heap.size, 0, none⟩)) ∧ RdSt w0 w' w.heap.size A n c l ∧ Below w.heap.size w w' := by
  have hu := Try.underlying101
  have HB := Aside0.mk hb
  have HR := Aside0.mk hr
  have HL := Aside0.mk hl
  clear hb hr hl
  go_enter Try.func32, Try.ntmps32
  go_wp2
  go_ret
  exact ⟨rfl, ⟨⟨0, Nat.zero_le _, Blk.new _ _ _⟩, below_alloc HB.out _, HB.out.size, HR.out, HL.out⟩, below_alloc (Below.refl _ _) _⟩
set_option maxHeartbeats 1000000 in
theorem next_calls (g : Nat) (A : Option Addr) (n c : Nat) (l : List Int) (w0 w : World) (h : RdSt w0 w g A n c l) :
    Calls Try.prog 71 #[.pointer (some ⟨g, 0, none⟩)] w (NextPost w0 w g A n c l) := by
  have hu := Try.underlying101
  obtain ⟨p, hp, hk⟩ := h.box
  have H := Aside0.mk h
  have HK := Aside0.mk hk
  have hc0 := hk.cell 0
  have hc1 := hk.cell 1
  have hf1 := hk.frozen 1
  have hn9 : n ≤ 9223372036854775807 := h.code.2.1
  by_cases hlt : p < n
  · have d1 : decide ((p : Int) < (n : Int)) = true := decide_eq_true (by omega)
    have d2 : decide (p < n) = true := decide_eq_true hlt
    have hln : l.length = n := h.code.1
    obtain ⟨ad, eA, hx⟩ := Kd.at_int (Kd.C_below h.code h.below) (p : Int) (by omega) (by omega)
    subst eA
    rw [Int.toNat_natCast] at hx
    have hxb := h.bytes (rd l (p : Int)) (by rw [rd_lt (by omega)]; exact List.getElem_mem _)
    obtain ⟨x, hxe⟩ : ∃ x, x = rd l (p : Int) := ⟨_, rfl⟩
    rw [← hxe] at hx hxb
    have hx0 := hxb.1
    have hx1 := hxb.2
    have q1 : (p : Int) < (n : Int) := by omega
    have q0 : (0 : Int) ≤ (p : Int) := by omega
    have hw : IntKind.i64.wrap ((p : Int) + 1) = (p : Int) + 1 := IntWalk.i64_in _ ⟨by omega, by omega⟩
    have HP := Aside0.mk hlt
    clear h hk hp hxe hxb hln hlt
    go_enter Try.func71, Try.ntmps71
    go_wp2
    go_quiet (fail)
    go_wp2
    go_quiet (fail)
    go_wp2
    go_ret
    unfold NextPost
    refine ⟨x, rfl, ⟨hx0, hx1⟩, ⟨⟨p + 1, HP.out, ?_⟩, ?_, H.out.lo, H.out.code, H.out.bytes⟩, ?_⟩
    · exact (HK.out.drewN _).set_ 1 _
    · exact (H.out.below.trans ((Drawn0.mk ⟨_, rfl⟩).below.mono H.out.below.size)).setCell H.out.lo _
    · exact (Kept.of_below (Drawn0.mk ⟨_, rfl⟩).below (fun b => b = g)).setCell (p := ⟨g, 1, none⟩) (.inl rfl) _
  · have d1 : decide ((p : Int) < (n : Int)) = false := decide_eq_false (by omega)
    have d2 : decide (p < n) = false := decide_eq_false hlt
    clear h hk hp hlt
    go_enter Try.func71, Try.ntmps71
    go_wp2
    go_quiet (fail)
    go_wp2
    go_ret
    unfold NextPost
    exact ⟨0, rfl, by omega, H.out.below_ (Drawn0.mk ⟨_, rfl⟩).below, Kept.of_below (Drawn0.mk ⟨_, rfl⟩).below _⟩
theorem rdleft_calls (g : Nat) (A : Option Addr) (n c : Nat) (l : List Int) (w0 w : World) (h : RdSt w0 w g A n c l) :
    Calls Try.prog 124 #[.pointer (some ⟨g, 0, none⟩)] w fun e w' => ∃ k : Int, e = .returned (.int .i64 k) ∧ (0 ≤ k ∧ k ≤ 9223372036854775807) ∧ Below w.heap.size w w' := by
  have hu := Try.underlying101
  obtain ⟨p, hp, hk⟩ := h.box
  have hc0 := hk.cell 0
  have hc1 := hk.cell 1
  have hn9 : n ≤ 9223372036854775807 := h.code.2.1
  have hb : 0 ≤ (n : Int) - (p : Int) ∧ (n : Int) - (p : Int) ≤ 9223372036854775807 := by omega
  have hw : IntKind.i64.wrap ((n : Int) - (p : Int)) = (n : Int) - (p : Int) := IntWalk.i64_in _ ⟨by omega, by omega⟩
  have HB := Aside0.mk hb
  clear h hk hp hb
  go_enter Try.func124, Try.ntmps124
  go_wp2
  go_quiet (fail)
  go_wp2
  go_ret
  exact ⟨_, rfl, HB.out, (Drawn0.mk ⟨_, rfl⟩).below⟩
/-- What l1DrawLimb leaves. -/
def LimbPost (w0 w : World) (g : Nat) (A : Option Addr) (n c : Nat) (l : List Int) (e : Ending) (w' : World) : Prop :=
  ∃ k : Int, e = .returned (.int .u32 k) ∧ (0 ≤ k ∧ k < 4294967296) ∧ RdSt w0 w' g A n c l ∧ Kept w w' (fun b => b = g)
set_option maxHeartbeats 1000000 in
theorem limb_calls (g : Nat) (A : Option Addr) (n c : Nat) (l : List Int) (w0 w : World) (h : RdSt w0 w g A n c l) :
    Calls Try.prog 125 #[.pointer (some ⟨g, 0, none⟩)] w (LimbPost w0 w g A n c l) := by
  have H := Aside0.mk h
  clear h
  go_enter Try.func125, Try.ntmps125
  go_wp2_with fail
  refine (next_calls g A n c l w0 w H.out).mono ?_
  rintro e w1 ⟨k, rfl, hk, hr, hkp⟩
  have H1 := Aside0.mk hr
  have HK1 := Aside0.mk hkp
  have hk0 := hk.1
  have hk1 := hk.2
  clear hr hkp hk H
  have hcase : (k % 8 = 1) ∨ ((k % 8 == 1) = false ∧ k % 8 = 2) ∨ ((k % 8 == 1) = false ∧ (k % 8 == 2) = false ∧ k % 8 = 3) ∨ ((k % 8 == 1) = false ∧ (k % 8 == 2) = false ∧ (k % 8 == 3) = false ∧ k % 8 = 4) ∨ ((k % 8 == 1) = false ∧ (k % 8 == 2) = false ∧ (k % 8 == 3) = false ∧ (k % 8 == 4) = false) := by
    simp only [beq_eq_false_iff_ne]
    omega
  rcases hcase with h1 | ⟨e1, h1⟩ | ⟨e1, e2, h1⟩ | ⟨e1, e2, e3, h1⟩ | ⟨e1, e2, e3, e4⟩
  · have e1 : (k % 8 == 1) = true := by rw [beq_iff_eq]; exact h1
    clear h1
    go_wp2
    go_ret
    unfold LimbPost
    exact ⟨_, rfl, by omega, H1.out, HK1.out⟩
  · have e2 : (k % 8 == 2) = true := by rw [beq_iff_eq]; exact h1
    clear h1
    go_wp2
    go_ret
    unfold LimbPost
    exact ⟨_, rfl, by omega, H1.out, HK1.out⟩
  · have e3 : (k % 8 == 3) = true := by rw [beq_iff_eq]; exact h1
    clear h1
    go_wp2
    go_ret
    unfold LimbPost
    exact ⟨_, rfl, by omega, H1.out, HK1.out⟩
  · have e4 : (k % 8 == 4) = true := by rw [beq_iff_eq]; exact h1
    have q1 : 0 ≤ k / 8 ∧ k / 8 ≤ 31 := by omega
    have q2 := q1.1
    have q3 := q1.2
    clear h1 q1
    go_wp2
    go_ret
    unfold LimbPost
    exact ⟨k / 8, rfl, by omega, H1.out, HK1.out⟩
  · go_wp2
    go_loopg [4, 5] 3 (fun q v4 v5 w' => ∃ (i : Nat) (v : Int), v4 = .int .u32 v ∧ v5 = .int .i64 (i : Int) ∧ Aside0 (i + q = 3) ∧ Aside0 (0 ≤ v ∧ v < 4294967296) ∧ Aside0 (RdSt w0 w' g A n c l) ∧ Aside0 (Kept w w' (fun b => b = g)))
    case atStart => exact ⟨0, k, rfl, rfl, ⟨rfl⟩, ⟨by omega⟩, H1, HK1⟩
    case round =>
      clear H1 HK1
      obtain ⟨i, v, rfl, rfl, HI, HV, H2, HK2⟩ := hrel
      have hi := HI.out
      cases gk with
      | zero =>
        have d1 : decide ((i : Int) < 3) = false := decide_eq_false (by omega)
        have d2 : decide (i < 3) = false := decide_eq_false (by omega)
        clear hi
        go_wp2
        go_ret
        unfold LimbPost
        exact ⟨v, rfl, HV.out, H2.out, HK2.out⟩
      | succ q =>
        have d1 : decide ((i : Int) < 3) = true := decide_eq_true (by omega)
        have d2 : decide (i < 3) = true := decide_eq_true (by omega)
        have hi3 : i < 3 := by omega
        clear hi
        go_wp2_with fail
        refine (next_calls g A n c l w0 wr H2.out).mono ?_
        rintro e w3 ⟨k3, rfl, hk3, hr, hkp⟩
        have H3 := Aside0.mk hr
        have HK3 := Aside0.mk (HK2.out.then_ hkp (fun b hb => .inl hb))
        have hk30 := hk3.1
        have hk31 := hk3.2
        have hv0 := HV.out.1
        have hv1 := HV.out.2
        clear hr hkp hk3
        go_wp2
        go_roundg q
        case measure => omega
        case rel => exact ⟨i + 1, _, rfl, by go_num, ⟨by have := HI.out; omega⟩, ⟨by omega⟩, H3, HK3⟩
/-- What l1DrawNat leaves. -/
def DNatPost (w0 w : World) (g : Nat) (A : Option Addr) (n c : Nat) (l : List Int) (e : Ending) (w' : World) : Prop :=
  ∃ (B : Option Addr) (d : Nat) (o : List Int), e = .returned (.slice B o.length d) ∧ Limbs o ∧ o.length ≤ 11 ∧ (Kd.int .u32).R 73 w' w.heap.size (fun _ => True) (.slice B o.length d) o ∧ RdSt w0 w' g A n c l ∧ Kept w w' (fun b => b = g)
set_option maxHeartbeats 2000000 in
set_option maxRecDepth 100000 in
theorem drawNat_calls (g : Nat) (A : Option Addr) (n c : Nat) (l : List Int) (w0 w : World) (h : RdSt w0 w g A n c l) :
    Calls Try.prog 114 #[.pointer (some ⟨g, 0, none⟩)] w (DNatPost w0 w g A n c l) := by
  have H := Aside0.mk h
  clear h
  go_enter Try.func114, Try.ntmps114
  go_wp2_with fail
  refine (next_calls g A n c l w0 w H.out).mono ?_
  rintro e w1 ⟨k, rfl, hk, hr, hkp⟩
  have H1 := Aside0.mk hr
  have HK1 := Aside0.mk hkp
  have hk0 := hk.1
  have hk1 := hk.2
  clear hr hkp hk
  go_upto_if 13 with fail
  go_cut [4] (fun v4 wc => ∃ nn : Nat, v4 = .int .i64 (nn : Int) ∧ Aside0 (nn ≤ 10) ∧ Aside0 (Below w1.heap.size w1 wc))
  case first =>
    by_cases h4 : k % 5 = 4
    · have e4 : (k % 5 == 4) = true := by rw [beq_iff_eq]; exact h4
      rw [e4]
      clear h4
      go_wp2_with fail
      refine (rdleft_calls g A n c l w0 w1 H1.out).mono ?_
      rintro e w2 ⟨m, rfl, hm, hb⟩
      have HB := Aside0.mk hb
      have hm0 := hm.1
      have hm1 := hm.2
      have q0 : 0 ≤ m / 12 := by omega
      have q1 : m / 12 ≤ 768614336404564650 := by omega
      clear hb hm
      by_cases h10 : 10 < 4 + m / 12
      · have d1 : decide (10 < 4 + m / 12) = true := decide_eq_true h10
        go_wp2
        go_meet
        exact ⟨10, rfl, ⟨by omega⟩, HB⟩
      · have d1 : decide (10 < 4 + m / 12) = false := decide_eq_false h10
        have HQ : Aside0 (4 + m / 12 = (((4 + m / 12).toNat : Nat) : Int) ∧ (4 + m / 12).toNat ≤ 10) := ⟨by omega⟩
        go_wp2
        go_meet
        exact ⟨(4 + m / 12).toNat, by rw [← HQ.out.1], ⟨HQ.out.2⟩, HB⟩
    · have e4 : (k % 5 == 4) = false := by rw [beq_eq_false_iff_ne]; exact h4
      rw [e4]
      have HQ : Aside0 (k % 6 = (((k % 6).toNat : Nat) : Int) ∧ (k % 6).toNat ≤ 10) := ⟨by omega⟩
      clear h4
      go_wp2
      go_meet
      exact ⟨(k % 6).toNat, by rw [← HQ.out.1], ⟨HQ.out.2⟩, ⟨Below.refl _ _⟩⟩
  case rest =>
    obtain ⟨nn, rfl, HN, HB⟩ := hcut
    have H2 := Aside0.mk (H1.out.below_ HB.out)
    have HK2 := Aside0.mk (HK1.out.below HB.out)
    generalize wc = w2 at H2 HK2 ⊢
    clear H1 HK1 HB
    have hO := show (Kd.int .u32).R 73 (w2.alloc (.cells #[] 73)) w.heap.size (fun _ => True) (.slice (some ⟨w2.heap.size, 0, none⟩) 0 0) [] from
      Kd.R_of_own (own_lit_of (enc := Value.int .u32) w2 w.heap.size 73 [] HK2.out.1 (by simp)) (fun k hk => trivial)
    have HO := Aside0.mk hO
    have H3 := Aside0.mk (H2.out.below_ (below_alloc (Below.refl w2.heap.size w2) (.cells #[] 73)))
    have HK3 := Aside0.mk (HK2.out.alloc (.cells #[] 73))
    clear hO H2 HK2
    have hnn := HN.out
    go_wp2
    go_loopg [5, 6] nn (fun q v5 v6 w' => ∃ (i : Nat) (o : List Int), v6 = .int .i64 (i : Int) ∧ Aside0 (i + q = nn) ∧ Aside0 (Limbs o ∧ o.length ≤ i) ∧ Aside0 ((Kd.int .u32).R 73 w' w.heap.size (fun _ => True) v5 o) ∧ Aside0 (RdSt w0 w' g A n c l) ∧ Aside0 (Kept w w' (fun b => b = g)))
    case atStart => exact ⟨0, [], rfl, ⟨by omega⟩, ⟨Limbs.nil, Nat.le_refl _⟩, HO, H3, HK3⟩
    case round =>
      clear HO H3 HK3
      obtain ⟨i, o, rfl, HI, HL, HO, H4, HK4⟩ := hrel
      obtain ⟨B, d, rfl⟩ := Kd.R_slice HO.out
      by_cases hlt : i < nn
      · have d1 : decide ((i : Int) < (nn : Int)) = true := decide_eq_true (by omega)
        have d2 : decide (i < nn) = true := decide_eq_true hlt
        go_wp2_with fail
        refine (limb_calls g A n c l w0 wr H4.out).mono ?_
        rintro e w5 ⟨x, rfl, hx, hr, hkp⟩
        have hbx := H4.out.box
        have H5 := Aside0.mk hr
        have HK5 := Aside0.mk (HK4.out.then_ hkp (fun b hb => .inl hb))
        have HO5 := Aside0.mk (R_keptT HO.out hkp (fun b hb h => by
          obtain ⟨p, _, hbk⟩ := hbx
          subst h
          exact R_blk_ne HO.out hbk (by decide) hb))
        have HX := Aside0.mk hx
        have HSZ : Aside0 (w.heap.size ≤ w5.heap.size) := ⟨HK5.out.1⟩
        have hll : (o.length + 1) * 4 ≤ 140737488355328 := by have := HL.out.2; omega
        have HLL := Aside0.mk hll
        clear hr hkp hbx hx hll HO H4 HK4
        go_wp2_with ((with_reducible refine gate_builtin (b := .append) (xs := #[.tmp 26, .tmp 29]) rfl ?_); at_builtin; refine Kd.R_append (Kd.int .u32) (w0 := w5) w.heap.size rfl (.tmp 26) (.tmp 29) 24 73 (.int .u32 0) 4 rfl Try.underlying24 infoU rfl (by decide) (by omega) (.slice B o.length d) o x [.int .u32 x] (fun _ => True) (fun _ => False) rfl rfl rfl (fun _ hk => hk.elim) (fun _ _ => trivial) HO5.out (Below.refl _ _) HSZ.out HLL.out ?_; intro v1 w6 ho hb hg hat; have HO6 := Aside0.mk ho; have HG6 := Aside0.mk hg; clear ho hb hg hat)
        go_roundg (gk - 1)
        case measure => have := HI.out; omega
        case rel =>
          refine ⟨i + 1, _, by go_num, ⟨by have := HI.out; omega⟩, ⟨HL.out.1.append (Limbs.cons HX.out Limbs.nil), by rw [List.length_append]; have := HL.out.2; simp; omega⟩, HO6, ⟨H5.out.grown HG6.out (fun h => ?_) (fun k hk => ?_)⟩, ⟨Kept.of_grown HG6.out HK5.out (fun k hk => .inr (Kd.R_base HO5.out k hk))⟩⟩
          · obtain ⟨p, _, hbk⟩ := H5.out.box
            exact R_blk_ne HO5.out hbk (by decide) h.symm
          · have := Kd.R_base HO5.out k hk
            have := H.out.below.size
            omega
      · have d1 : decide ((i : Int) < (nn : Int)) = false := decide_eq_false (by omega)
        have d2 : decide (i < nn) = false := decide_eq_false hlt
        have hi : i ≤ 10 := by have := HI.out; omega
        by_cases h224 : 224 ≤ k
        · have d3 : decide (224 ≤ k) = true := decide_eq_true h224
          have hll : (o.length + 1) * 4 ≤ 140737488355328 := by have := HL.out.2; omega
          have HLL := Aside0.mk hll
          have HSZ : Aside0 (w.heap.size ≤ wr.heap.size) := ⟨HK4.out.1⟩
          have HII := Aside0.mk hi
          clear hll hi hlt
          go_wp2_with ((with_reducible refine gate_builtin (b := .append) (xs := #[.tmp 33, .tmp 34]) rfl ?_); at_builtin; refine Kd.R_append (Kd.int .u32) (w0 := wr) w.heap.size rfl (.tmp 33) (.tmp 34) 24 73 (.int .u32 0) 4 rfl Try.underlying24 infoU rfl (by decide) (by omega) (.slice B o.length d) o 0 [.int .u32 0] (fun _ => True) (fun _ => False) rfl rfl rfl (fun _ hk => hk.elim) (fun _ _ => trivial) HO.out (Below.refl _ _) HSZ.out HLL.out ?_; intro v1 w6 ho hb hg hat; obtain ⟨B1, d1, rfl⟩ := Kd.R_slice ho; have HO6 := Aside0.mk ho; have HG6 := Aside0.mk hg; clear ho hb hg hat)
          go_ret
          unfold DNatPost
          refine ⟨B1, d1, o ++ [0], by rw [List.length_append]; rfl, HL.out.1.append (Limbs.cons ⟨by omega, by omega⟩ Limbs.nil), by rw [List.length_append]; have := HL.out.2; have := HII.out; simp; omega, HO6.out, H4.out.grown HG6.out (fun h => ?_) (fun k hk => ?_), Kept.of_grown HG6.out HK4.out (fun k hk => .inr (Kd.R_base HO.out k hk))⟩
          · obtain ⟨p, _, hbk⟩ := H4.out.box
            exact R_blk_ne HO.out hbk (by decide) h.symm
          · have := Kd.R_base HO.out k hk
            have := H.out.below.size
            omega
        · have d3 : decide (224 ≤ k) = false := decide_eq_false h224
          have HII := Aside0.mk hi
          clear hi hlt
          go_wp2
          go_ret
          unfold DNatPost
          exact ⟨B, d, o, rfl, HL.out.1, by have := HL.out.2; have := HII.out; omega, HO.out, H4.out, HK4.out⟩
end Go.Proofs.Ytlpckbleokoiiaa.Hand
