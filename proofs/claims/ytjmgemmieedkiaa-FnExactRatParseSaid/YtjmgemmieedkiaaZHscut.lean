/- The document's l1Cut: the pieces of a text between two bytes; and l1ReadRun, the value of a run of digits as bits. Conditions: the text has at most 2^40 bytes (l1ReadRun: 400). -/
import Derived.Test.YtjmgemmieedkiaaZMparse
import Derived.Test.YtjmgemmieedkiaaZHsr4
import Derived.Deep.RegionHeld3
set_option linter.unusedVariables false
set_option linter.unusedSimpArgs false
namespace Go.Proofs.Ytjmgemmieedkiaa.Hand
open Go.RowKit Go.Proofs.YtjmgemmieedkiaaW.PrintWords Go.Proofs.YtjmgemmieedkiaaW.PrintLast Go.Proofs.YtjmgemmieedkiaaW.PrintMore
theorem infoS : (Try.prog.info? 9).map (fun i => (i.zero, i.size, i.bytes)) = some (some (.string ByteArray.empty), 1, 16) := by kernel_rfl
/-- The pieces between bytes p and q, the first one begun with acc. -/
def cutA (p q : Int) : List Int → List Int → List (List Int)
  | acc, [] => [acc]
  | acc, x :: xs => if x = p ∨ x = q then acc :: cutA p q [] xs else cutA p q (acc ++ [x]) xs
/-- What is done, and what is left. -/
def CutIn (l : List Int) (p q : Int) (fr i : Nat) (ps : List (List Int)) : Prop := ps ++ cutA p q ((l.take i).drop fr) (l.drop i) = cutA p q [] l
theorem cutIn_start (l : List Int) (p q : Int) : CutIn l p q 0 0 [] := by unfold CutIn; simp
theorem cutIn_hit {l : List Int} {p q : Int} {fr i : Nat} {ps : List (List Int)} (h : CutIn l p q fr i ps) (hi : i < l.length) (hx : rd l (i : Int) = p ∨ rd l (i : Int) = q) : CutIn l p q (i + 1) (i + 1) (ps ++ [(l.take i).drop fr]) := by
  unfold CutIn at h ⊢
  rw [List.drop_eq_getElem_cons hi, cutA, if_pos (by rw [← rd_lt hi]; exact hx)] at h
  rw [← h, List.append_assoc, List.drop_of_length_le (l := l.take (i + 1)) (by rw [List.length_take]; omega)]
  rfl
theorem cutIn_miss {l : List Int} {p q : Int} {fr i : Nat} {ps : List (List Int)} (h : CutIn l p q fr i ps) (hf : fr ≤ i) (hi : i < l.length) (hx : ¬ (rd l (i : Int) = p ∨ rd l (i : Int) = q)) : CutIn l p q fr (i + 1) ps := by
  unfold CutIn at h ⊢
  rw [List.drop_eq_getElem_cons hi, cutA, if_neg (by rw [← rd_lt hi]; exact hx)] at h
  rw [← h, List.take_succ_eq_append_getElem hi, List.drop_append_of_le_length (by rw [List.length_take]; omega)]
theorem cutIn_end {l : List Int} {p q : Int} {fr : Nat} {ps : List (List Int)} (h : CutIn l p q fr l.length ps) : ps ++ [l.drop fr] = cutA p q [] l := by
  unfold CutIn at h
  rw [List.take_length, List.drop_length, cutA] at h
  exact h
theorem sb_extract (s : ByteArray) (a b : Nat) : sb (s.extract a b) = ((sb s).take b).drop a := by
  unfold sb
  rw [ByteArray.data_extract, Array.toList_extract, List.extract_eq_drop_take', List.map_drop, List.map_take]
set_option maxHeartbeats 2000000 in
set_option maxRecDepth 100000 in
theorem l1Cut_calls (s : ByteArray) (p q : Int) (w : World) (hs : s.size ≤ 1048576) :
    Calls Try.prog 84 #[.string s, .int .u8 p, .int .u8 q] w fun e w' => ∃ (A : Option Addr) (c : Nat) (o : List ByteArray), e = .returned (.slice A o.length c) ∧ Kd.string.R 9 w' w.heap.size (fun _ => True) (.slice A o.length c) o ∧ o.map sb = cutA p q [] (sb s) ∧ o.length ≤ s.size + 1 ∧ Below w.heap.size w w' := by
  have HS := Aside0.mk hs
  have hs9 : s.size ≤ 9223372036854775807 := by omega
  have hO := Aside0.mk (show Kd.string.R 9 (w.alloc (.cells #[] 9)) w.heap.size (fun _ => True) (.slice (some ⟨w.heap.size, 0, none⟩) 0 0) [] from
    Kd.R_of_own (own_lit_of (enc := Value.string) w w.heap.size 9 [] (Nat.le_refl _) (by simp)) (fun k hk => trivial))
  have HB0 := Aside0.mk (below_alloc (Below.refl w.heap.size w) (.cells #[] 9))
  clear hs
  go_enter Try.func84, Try.ntmps84
  go_wp2
  go_loopg [7, 8, 9] s.size (fun g v7 v8 v9 w' => ∃ (fr i : Nat) (o : List ByteArray), v8 = .int .i64 (fr : Int) ∧ v9 = .int .i64 (i : Int) ∧ Aside0 (i + g = s.size) ∧ Aside0 (fr ≤ i ∧ o.length ≤ i) ∧ Aside0 (CutIn (sb s) p q fr i (o.map sb)) ∧ Aside0 (Kd.string.R 9 w' w.heap.size (fun _ => True) v7 o) ∧ Aside0 (Below w.heap.size w w'))
  case atStart => exact ⟨0, 0, [], rfl, rfl, ⟨by omega⟩, ⟨by simp⟩, ⟨cutIn_start _ _ _⟩, hO, HB0⟩
  case round =>
    clear hO HB0
    obtain ⟨fr, i, o, rfl, rfl, HI, HF, HC, HO, HB⟩ := hrel
    have hfi := HF.out.1
    have hfi2 : (fr : Int) ≤ (i : Int) := by omega
    by_cases hlt : i < s.size
    · have HX := Aside0.mk (sb_rd hlt)
      have HLT := Aside0.mk (show i < (sb s).length by rw [sb_length]; exact hlt)
      obtain ⟨x, hx⟩ : ∃ x, x = rd (sb s) (i : Int) := ⟨_, rfl⟩
      rw [← hx] at HX
      have hxx : ((s[i].toNat : Nat) : Int) = x := HX.out.symm
      have HXE := Aside0.mk hx
      clear hx HX
      by_cases hpq : x = p ∨ x = q
      · have HN := Aside0.mk (cutIn_hit HC.out HLT.out (by rw [← HXE.out]; exact hpq))
        have hle : i ≤ s.size := by omega
        have hle2 : (i : Int) ≤ (s.size : Int) := by omega
        have hcond : ((x == p) = true) ∨ ((x == p) = false ∧ (x == q) = true) := by
          by_cases h : x = p
          · left; simpa using h
          · right; exact ⟨by simpa using h, by simpa using hpq.resolve_left h⟩
        have HLL : Aside0 ((o.length + 1) * 16 ≤ 140737488355328) := ⟨by have := HF.out; have := HS.out; omega⟩
        clear hpq
        rcases hcond with hc1 | ⟨hc1, hc2⟩
        all_goals
          go_wp2_with ((with_reducible refine gate_builtin (b := .append) (xs := #[.tmp 29, .tmp 34]) rfl ?_); at_builtin; refine Kd.R_append Kd.string (w0 := w) w.heap.size rfl (.tmp 29) (.tmp 34) 80 9 (.string ByteArray.empty) 16 rfl Try.underlying80 infoS rfl (by decide) (by omega) u7 o (s.extract fr i) [.string (s.extract fr i)] (fun _ => True) (fun _ => False) rfl rfl rfl (fun _ hk => hk.elim) (fun _ _ => trivial) HO.out HB.out HB.out.size HLL.out ?_; intro v1 w1 ho hb hg hat; have HO1 := Aside0.mk ho; have HB1 := Aside0.mk hb; clear ho hb hg hat)
          go_roundg (gk - 1)
          case measure => have := HI.out; omega
          case rel => exact ⟨i + 1, i + 1, _, by go_num, by go_num, ⟨by have := HI.out; omega⟩, ⟨Nat.le_refl _, by rw [List.length_append]; have := HF.out.2; simp; omega⟩, ⟨by rw [List.map_append, List.map_singleton, sb_extract]; exact HN.out⟩, HO1, HB1⟩
      · have HN := Aside0.mk (cutIn_miss HC.out hfi HLT.out (by rw [← HXE.out]; exact hpq))
        have hc1 : (x == p) = false := by simpa using (fun h => hpq (.inl h))
        have hc2 : (x == q) = false := by simpa using (fun h => hpq (.inr h))
        clear hpq
        go_wp2
        go_roundg (gk - 1)
        case measure => have := HI.out; omega
        case rel => exact ⟨fr, i + 1, o, rfl, by go_num, ⟨by have := HI.out; omega⟩, ⟨by omega, by have := HF.out.2; omega⟩, HN, HO, HB⟩
    · have hi : i = s.size := by have := HI.out; omega
      have HE := Aside0.mk (cutIn_end (l := sb s) (p := p) (q := q) (fr := fr) (by rw [sb_length, ← hi]; exact HC.out))
      have HLL : Aside0 ((o.length + 1) * 16 ≤ 140737488355328) := ⟨by have := HF.out; have := HS.out; omega⟩
      have HIE := Aside0.mk hi
      have hle : fr ≤ s.size := by omega
      have hle2 : (fr : Int) ≤ (s.size : Int) := by omega
      clear hi
      go_wp2_with ((with_reducible refine gate_builtin (b := .append) (xs := #[.tmp 38, .tmp 42]) rfl ?_); at_builtin; refine Kd.R_append Kd.string (w0 := w) w.heap.size rfl (.tmp 38) (.tmp 42) 80 9 (.string ByteArray.empty) 16 rfl Try.underlying80 infoS rfl (by decide) (by omega) u7 o (s.extract fr s.size) [.string (s.extract fr s.size)] (fun _ => True) (fun _ => False) rfl rfl rfl (fun _ hk => hk.elim) (fun _ _ => trivial) HO.out HB.out HB.out.size HLL.out ?_; intro v1 w1 ho hb hg hat; obtain ⟨A1, c1, rfl⟩ := Kd.R_slice ho; have HO1 := Aside0.mk ho; have HB1 := Aside0.mk hb; clear ho hb hg hat)
      go_ret
      exact ⟨_, _, _, by rw [List.length_append]; rfl, HO1.out, by rw [List.map_append, List.map_singleton, sb_extract, ← sb_length, List.take_length]; exact HE.out, by rw [List.length_append]; have := HF.out.2; have := HIE.out; simp; omega, HB1.out⟩
theorem l1AddX (A A' : Option Addr) (c c' : Nat) (x y : Nat) (w : World) (hr : Kd.bool.C w A (bin x).length (bin x)) (hr' : Kd.bool.C w A' (bin y).length (bin y)) (hn : (bin x).length ≤ 35184372088832) (hn' : (bin y).length ≤ 35184372088832) :
    Calls Try.prog 80 #[.slice A (bin x).length c, .slice A' (bin y).length c'] w fun e w' => ∃ A1 c1, e = .returned (.slice A1 (bin (x + y)).length c1) ∧ Kd.bool.R 4 w' w.heap.size (fun _ => True) (.slice A1 (bin (x + y)).length c1) (bin (x + y)) ∧ Below w.heap.size w w' := by
  have h := l1AddBits_calls A A' c c' (bin x) (bin y) w hr hr' hn hn'
  rw [bval_bin, bval_bin] at h
  refine h.mono ?_
  rintro e w' ⟨v, rfl, ho, hb⟩
  obtain ⟨A1, c1, rfl⟩ := Kd.R_slice ho
  exact ⟨A1, c1, rfl, ho, hb⟩
theorem bitsX (x : Int) (w : World) (hx0 : 0 ≤ x) (hx1 : x ≤ 18446744073709551615) : Calls Try.prog 62 #[.int .u64 x] w fun e w' => ∃ A c, e = .returned (.slice A (bin x.toNat).length c) ∧ Kd.bool.R 4 w' w.heap.size (fun _ => True) (.slice A (bin x.toNat).length c) (bin x.toNat) ∧ Below w.heap.size w w' := l1BitsOf_calls x w hx0 hx1
theorem bin_ten (k n : Nat) (h : n < 10 ^ k) : (bin n).length ≤ 4 * k := bin_length_le (Nat.lt_of_lt_of_le h (by rw [Nat.pow_mul]; exact Nat.pow_le_pow_left (by decide) k))
set_option maxHeartbeats 2000000 in
set_option maxRecDepth 100000 in
theorem l1ReadRun_calls (s : ByteArray) (w : World) (hs : s.size ≤ 1048576) (hd : ∀ x ∈ sb s, 48 ≤ x ∧ x ≤ 57) :
    Calls Try.prog 86 #[.string s] w fun e w' => ∃ A c, e = .returned (.slice A (bin (nval (sb s))).length c) ∧ Kd.bool.R 4 w' w.heap.size (fun _ => True) (.slice A (bin (nval (sb s))).length c) (bin (nval (sb s))) ∧ Below w.heap.size w w' := by
  have HS := Aside0.mk hs
  have hs9 : s.size ≤ 9223372036854775807 := by omega
  have HD := Aside0.mk hd
  have hO := show Kd.bool.R 4 (w.alloc (.cells #[] 4)) w.heap.size (fun _ => True) (.slice (some ⟨w.heap.size, 0, none⟩) 0 0) [] from
    Kd.R_of_own (own_lit_of (enc := Value.bool) w w.heap.size 4 [] (Nat.le_refl _) (by simp)) (fun k hk => trivial)
  have fb := below_alloc (Below.refl w.heap.size w) (.cells #[] 4)
  clear hs hd
  go_enter Try.func86, Try.ntmps86
  go_wp2_with fail
  generalize w.alloc (.cells #[] 4) = W at hO fb ⊢
  have HO := Aside0.mk hO
  have HB := Aside0.mk fb
  clear hO fb
  refine (bitsX 10 W (by omega) (by omega)).mono ?_
  rintro e w1 ⟨At, ct, rfl, ho, hb⟩
  have HT1 := Aside0.mk ho
  have HO1 := Aside0.mk (Kd.R_below HO.out hb)
  have HB1 := Aside0.mk (HB.out.trans (hb.mono HB.out.size))
  rw [show ((10 : Int)).toNat = 10 from rfl] at HT1 ⊢
  have hz1 := hb.size
  clear ho hb HO HB
  go_wp2
  go_loopg [3, 5] s.size (fun g v3 v5 w' => ∃ (i : Nat) (A : Option Addr) (c : Nat), v5 = .int .i64 (i : Int) ∧ v3 = .slice A (bin (nval ((sb s).take i))).length c ∧ Aside0 (i + g = s.size) ∧ Aside0 (Kd.bool.R 4 w' w.heap.size (fun _ => True) (.slice A (bin (nval ((sb s).take i))).length c) (bin (nval ((sb s).take i)))) ∧ Aside0 (Below w1.heap.size w1 w'))
  case atStart => exact ⟨0, _, _, rfl, by rw [List.take_zero, show nval [] = 0 from rfl, bin_zero]; rfl, ⟨by omega⟩, by rw [List.take_zero, show nval [] = 0 from rfl, bin_zero]; exact HO1, ⟨Below.refl _ _⟩⟩
  case round =>
    clear HO1
    obtain ⟨i, A, c, rfl, rfl, HI, HO, HB⟩ := hrel
    have hbl : ∀ j, j ≤ s.size → (bin (nval ((sb s).take j))).length ≤ 4 * j := fun j hj => by
      refine bin_ten j _ ?_
      have h := nval_lt (l := (sb s).take j) (fun x hx => HD.out x (List.mem_of_mem_take hx))
      rwa [List.length_take, sb_length, Nat.min_eq_left hj] at h
    have HBL := Aside0.mk hbl
    clear hbl
    by_cases hlt : i < s.size
    · have HX := Aside0.mk (sb_rd hlt)
      have HLT := Aside0.mk (show i < (sb s).length by rw [sb_length]; exact hlt)
      have hr := HD.out (rd (sb s) (i : Int)) (by rw [rd_lt HLT.out]; exact List.getElem_mem _)
      have HNT := Aside0.mk (nval_take HLT.out)
      obtain ⟨x, hx⟩ : ∃ x, x = rd (sb s) (i : Int) := ⟨_, rfl⟩
      rw [← hx] at hr HX HNT
      have hx0 := hr.1
      have hx1 := hr.2
      have hxx : ((s[i].toNat : Nat) : Int) = x := HX.out.symm
      have hw1 : IntKind.u8.wrap (x - 48) = x - 48 := by rw [IntKind.wrap_u8]; omega
      have hw2 : IntKind.u64.wrap (x - 48) = x - 48 := by rw [IntKind.wrap_u64]; omega
      have hlt2 : (i : Int) < (s.size : Int) := by omega
      have b1 : (bin (nval ((sb s).take i))).length ≤ 4 * i := HBL.out i (by omega)
      have b2 : (bin 10).length ≤ 4 := bin_length_le (by decide)
      clear hx hr HX
      obtain ⟨N, hN⟩ : ∃ N, N = nval ((sb s).take i) := ⟨_, rfl⟩
      rw [← hN] at HO HNT b1 ⊢
      clear hN
      have hBW := Below.refl wr.heap.size wr
      have C1 : Aside0 (∀ w', Below wr.heap.size wr w' → Kd.bool.C w' A (bin N).length (bin N)) := ⟨fun w' h => (Kd.R_reads' (Kd.R_below HO.out h)).2.2⟩
      have C2 : Aside0 (∀ w', Below wr.heap.size wr w' → Kd.bool.C w' At (bin 10).length (bin 10)) := ⟨fun w' h => (Kd.R_reads' (Kd.R_below (Kd.R_below HT1.out HB.out) h)).2.2⟩
      have b3 : (bin (N * 10)).length ≤ 4 * (i + 1) := bin_le (by rw [HNT.out]; omega) (HBL.out (i + 1) (by omega))
      have b4 : (bin (x - 48).toNat).length ≤ 4 := bin_length_le (by omega)
      have hsz := HS.out
      go_wp2_with fail
      go_region_held3 (fun w' => True) ((trivial))
        (first | (go_at_call 48; (with_reducible refine (l1MulX _ _ _ _ N 10 _ (C1.out _ (below_drew hBW)) (C2.out _ (below_drew hBW)) (by omega) (by omega)).mono ?_); rintro e wp ⟨Ap, cp, rfl, hop, hbp⟩; have hBp : Below wr.heap.size wr wp := heldB2 (below_drew hBW) hbp) | (go_at_call 62; (with_reducible refine (bitsX (x - 48) _ (by omega) (by omega)).mono ?_); rintro e wq ⟨Aq, cq, rfl, hoq, hbq⟩; have hBq : Below wr.heap.size wr wq := heldB2 hBp hbq) | (go_at_call 80; (with_reducible refine (l1AddX _ _ _ _ (N * 10) (x - 48).toNat _ (Kd.R_reads' (Kd.R_below hop hbq)).2.2 (Kd.R_reads' hoq).2.2 (by omega) (by omega)).mono ?_); rintro e wz ⟨Az, cz, rfl, hoz, hbz⟩; have hBz : Below wr.heap.size wr wz := heldB2 hBq hbz))
      all_goals
        have hoz2 := Kd.R_lower hoz (base' := w.heap.size) (by have := HB.out.size; have := HB1.out.size; have := hBq.size; omega)
        rw [← HNT.out] at hoz2 ⊢
        have HOZ := Aside0.mk hoz2
        have HBZ := Aside0.mk (HB.out.trans (hBz.mono HB.out.size))
        clear hop hoq hoz hbp hbq hbz hBp hBq hBz hoz2 hBW C1 C2 b1 b2 b3 b4 hsz
        go_wp2
        go_roundg (gk - 1)
        case measure => have := HI.out; omega
        case rel => exact ⟨i + 1, _, _, by go_num, rfl, ⟨by have := HI.out; omega⟩, HOZ, HBZ⟩
    · have hi : i = s.size := by have := HI.out; omega
      have hte : (sb s).take i = sb s := by rw [hi, ← sb_length, List.take_length]
      rw [hte] at HO ⊢
      clear hi hte
      go_wp2
      go_ret
      exact ⟨_, _, rfl, HO.out, HB1.out.trans (HB.out.mono HB1.out.size)⟩
end Go.Proofs.Ytjmgemmieedkiaa.Hand
