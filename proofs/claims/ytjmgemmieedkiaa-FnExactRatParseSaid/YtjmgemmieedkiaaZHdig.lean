/- Texts as lists of bytes; texts that are digits: the program's digits, the document's l1Digits; the program's readNat. Conditions: the text has at most 2^40 bytes. -/
import Derived.Test.YtjmgemmieedkiaaZMdec
import Derived.Test.YtjmgemmieedkiaaZHgrow
set_option linter.unusedVariables false
set_option linter.unusedSimpArgs false
namespace Go.Proofs.Ytjmgemmieedkiaa.Hand
open Go.RowKit Go.Proofs.YtjmgemmieedkiaaW.PrintWords Go.Proofs.YtjmgemmieedkiaaW.PrintLast Go.Proofs.YtjmgemmieedkiaaW.PrintMore
/-- The bytes of a text. -/
def sb (s : ByteArray) : List Int := s.data.toList.map (fun c => (c.toNat : Int))
theorem sb_length (s : ByteArray) : (sb s).length = s.size := by unfold sb; rw [List.length_map, Array.length_toList]; rfl
theorem sb_rd {s : ByteArray} {i : Nat} (h : i < s.size) : rd (sb s) (i : Int) = ((s[i].toNat : Nat) : Int) := by
  rw [rd_lt (by rw [sb_length]; exact h)]
  unfold sb
  rw [List.getElem_map]
  rfl
/-- A byte that is a digit. -/
def dig1 (x : Int) : Bool := decide (48 ≤ x) && decide (x ≤ 57)
/-- Digits alone, and at least one. -/
def isDig (l : List Int) : Bool := l.all dig1 && decide (0 < l.length)
theorem isDig_no {l : List Int} {i : Nat} (hi : i < l.length) (h : rd l (i : Int) < 48 ∨ 57 < rd l (i : Int)) : isDig l = false := by
  unfold isDig
  rw [rd_lt hi] at h
  have : l.all dig1 = false := by
    rw [List.all_eq_false]
    refine ⟨l[i], List.getElem_mem hi, ?_⟩
    unfold dig1
    simp
    omega
  rw [this]; rfl
def DigTo (l : List Int) (i : Nat) : Prop := ∀ j : Nat, j < i → j < l.length → 48 ≤ rd l (j : Int) ∧ rd l (j : Int) ≤ 57
theorem digTo_start (l : List Int) : DigTo l 0 := fun j hj => by omega
theorem digTo_step {l : List Int} {i : Nat} (h : DigTo l i) (hx : 48 ≤ rd l (i : Int) ∧ rd l (i : Int) ≤ 57) : DigTo l (i + 1) := fun j hj hl => by
  by_cases e : j = i
  · subst e; exact hx
  · exact h j (by omega) hl
theorem digTo_end {l : List Int} (h : DigTo l l.length) : isDig l = decide (0 < l.length) := by
  unfold isDig
  have : l.all dig1 = true := by
    rw [List.all_eq_true]
    intro x hx
    obtain ⟨j, hj, rfl⟩ := List.getElem_of_mem hx
    have h2 := h j hj hj
    rw [rd_lt hj] at h2
    unfold dig1
    simp
    omega
  rw [this]; rfl
theorem isDig_all {l : List Int} (h : isDig l = true) : ∀ x ∈ l, 48 ≤ x ∧ x ≤ 57 := by
  unfold isDig at h
  rw [Bool.and_eq_true, List.all_eq_true] at h
  intro x hx
  have := h.1 x hx
  unfold dig1 at this
  simpa using this
/-- The value of a run of digits. -/
def nval (l : List Int) : Nat := l.foldl (fun n x => n * 10 + (x - 48).toNat) 0
theorem nval_snoc (l : List Int) (x : Int) : nval (l ++ [x]) = nval l * 10 + (x - 48).toNat := by unfold nval; rw [List.foldl_append]; rfl
theorem nval_take {l : List Int} {i : Nat} (hi : i < l.length) : nval (l.take (i + 1)) = nval (l.take i) * 10 + (rd l (i : Int) - 48).toNat := by
  rw [List.take_succ_eq_append_getElem hi, nval_snoc, rd_lt hi]
theorem nval_lt {l : List Int} (h : ∀ x ∈ l, 48 ≤ x ∧ x ≤ 57) : nval l < 10 ^ l.length := by
  have key : ∀ i, i ≤ l.length → nval (l.take i) < 10 ^ i := by
    intro i
    induction i with
    | zero => intro _; simp [nval]
    | succ i ih =>
      intro hi
      have h1 := ih (by omega)
      rw [nval_take (by omega), rd_lt (by omega), Nat.pow_succ]
      have h2 := h l[i] (List.getElem_mem (by omega))
      omega
  have := key l.length (Nat.le_refl _)
  rwa [List.take_length] at this
set_option maxHeartbeats 1000000 in
theorem digits_calls (s : ByteArray) (b : Bool) (w : World) (hs : s.size ≤ 9223372036854775807) (hb : isDig (sb s) = b) :
    Calls Try.prog 90 #[.string s] w fun e w' => e = .returned (.bool b) ∧ w = w' := by
  have HB := Aside0.mk hb
  clear hb
  go_enter Try.func90, Try.ntmps90
  go_wp2
  go_loopg [6, 3] s.size (fun g v6 v3 w' => ∃ i : Nat, v6 = .int .i64 (i : Int) ∧ Aside0 (i + g = s.size) ∧ Aside0 (DigTo (sb s) i) ∧ Aside0 (w = w'))
  case atStart => exact ⟨0, rfl, ⟨by omega⟩, ⟨digTo_start _⟩, ⟨rfl⟩⟩
  case round =>
    obtain ⟨i, rfl, HI, HD, HW⟩ := hrel
    by_cases hlt : i < s.size
    · have HR := Aside0.mk (sb_rd hlt)
      have HLT := Aside0.mk (show i < (sb s).length by rw [sb_length]; exact hlt)
      obtain ⟨x, hx⟩ : ∃ x, x = rd (sb s) (i : Int) := ⟨_, rfl⟩
      have HX := Aside0.mk hx
      have hx0 : 0 ≤ x := by rw [hx, HR.out]; omega
      have hxx : ((s[i].toNat : Nat) : Int) = x := by rw [hx, HR.out]
      clear hx
      by_cases h48 : 48 ≤ x
      · by_cases h57 : x ≤ 57
        · have d1 : decide (x < 48) = false := decide_eq_false (by omega)
          have d2 : decide (57 < x) = false := decide_eq_false (by omega)
          go_wp2
          go_roundg (gk - 1)
          case measure => have := HI.out; omega
          case rel => exact ⟨i + 1, by go_num, ⟨by have := HI.out; omega⟩, ⟨digTo_step HD.out (by rw [← HX.out]; omega)⟩, HW⟩
        · have d1 : decide (x < 48) = false := decide_eq_false (by omega)
          have d2 : decide (57 < x) = true := decide_eq_true (by omega)
          go_wp2
          go_ret
          exact ⟨by rw [← HB.out, isDig_no HLT.out (.inr (by rw [← HX.out]; omega))]; rfl, HW.out⟩
      · have d1 : decide (x < 48) = true := decide_eq_true (by omega)
        go_wp2
        go_ret
        exact ⟨by rw [← HB.out, isDig_no HLT.out (.inl (by rw [← HX.out]; omega))]; rfl, HW.out⟩
    · have hi : i = s.size := by have := HI.out; omega
      have HE := Aside0.mk (digTo_end (l := sb s) (by rw [sb_length, ← hi]; exact HD.out))
      rw [sb_length, HB.out] at HE
      have hbb : decide ((0 : Int) < (s.size : Int)) = b := by rw [HE.out, Bool.eq_iff_iff, decide_eq_true_eq, decide_eq_true_eq]; omega
      have hbb2 : decide (0 < s.size) = b := HE.out.symm
      clear hi
      go_wp2
      go_ret
      exact ⟨rfl, HW.out⟩
set_option maxHeartbeats 1000000 in
theorem l1Digits_calls (s : ByteArray) (b : Bool) (w : World) (hs : s.size ≤ 9223372036854775807) (hb : isDig (sb s) = b) :
    Calls Try.prog 85 #[.string s] w fun e w' => e = .returned (.bool b) ∧ w = w' := by
  have HB := Aside0.mk hb
  clear hb
  go_enter Try.func85, Try.ntmps85
  go_wp2
  go_loopg [3] s.size (fun g v3 w' => ∃ i : Nat, v3 = .int .i64 (i : Int) ∧ Aside0 (i + g = s.size) ∧ Aside0 (DigTo (sb s) i) ∧ Aside0 (w = w'))
  case atStart => exact ⟨0, rfl, ⟨by omega⟩, ⟨digTo_start _⟩, ⟨rfl⟩⟩
  case round =>
    obtain ⟨i, rfl, HI, HD, HW⟩ := hrel
    by_cases hlt : i < s.size
    · have HR := Aside0.mk (sb_rd hlt)
      have HLT := Aside0.mk (show i < (sb s).length by rw [sb_length]; exact hlt)
      obtain ⟨x, hx⟩ : ∃ x, x = rd (sb s) (i : Int) := ⟨_, rfl⟩
      have HX := Aside0.mk hx
      have hx0 : 0 ≤ x := by rw [hx, HR.out]; omega
      have hxx : ((s[i].toNat : Nat) : Int) = x := by rw [hx, HR.out]
      clear hx
      by_cases h48 : 48 ≤ x
      · by_cases h57 : x ≤ 57
        · have d1 : decide (x < 48) = false := decide_eq_false (by omega)
          have d2 : decide (57 < x) = false := decide_eq_false (by omega)
          go_wp2
          go_roundg (gk - 1)
          case measure => have := HI.out; omega
          case rel => exact ⟨i + 1, by go_num, ⟨by have := HI.out; omega⟩, ⟨digTo_step HD.out (by rw [← HX.out]; omega)⟩, HW⟩
        · have d1 : decide (x < 48) = false := decide_eq_false (by omega)
          have d2 : decide (57 < x) = true := decide_eq_true (by omega)
          go_wp2
          go_ret
          exact ⟨by rw [← HB.out, isDig_no HLT.out (.inr (by rw [← HX.out]; omega))]; rfl, HW.out⟩
      · have d1 : decide (x < 48) = true := decide_eq_true (by omega)
        go_wp2
        go_ret
        exact ⟨by rw [← HB.out, isDig_no HLT.out (.inl (by rw [← HX.out]; omega))]; rfl, HW.out⟩
    · have hi : i = s.size := by have := HI.out; omega
      have HE := Aside0.mk (digTo_end (l := sb s) (by rw [sb_length, ← hi]; exact HD.out))
      rw [sb_length, HB.out] at HE
      have hbb : decide ((0 : Int) < (s.size : Int)) = b := by rw [HE.out, Bool.eq_iff_iff, decide_eq_true_eq, decide_eq_true_eq]; omega
      have hbb2 : decide (0 < s.size) = b := HE.out.symm
      clear hi
      go_wp2
      go_ret
      exact ⟨rfl, HW.out⟩
set_option maxHeartbeats 1000000 in
set_option maxRecDepth 100000 in
theorem readNat_calls (s : ByteArray) (w : World) (hs : s.size ≤ 1048576) (hd : ∀ x ∈ sb s, 48 ≤ x ∧ x ≤ 57) :
    Calls Try.prog 91 #[.string s] w fun e w' => ∃ A c, e = .returned (.slice A (lim (nval (sb s))).length c) ∧ (Kd.int .u32).R 49 w' w.heap.size (fun _ => True) (.slice A (lim (nval (sb s))).length c) (lim (nval (sb s))) ∧ Below w.heap.size w w' := by
  have HD := Aside0.mk hd
  clear hd
  have hO := show (Kd.int .u32).R 49 (w.alloc (.cells #[] 49)) w.heap.size (fun _ => True) (.slice (some ⟨w.heap.size, 0, none⟩) 0 0) [] from
    Kd.R_of_own (own_lit_of (enc := Value.int .u32) w w.heap.size 49 [] (Nat.le_refl _) (by simp)) (fun k hk => trivial)
  have fb := below_alloc (below_alloc (Below.refl w.heap.size w) (.cells #[] 49)) (.cells #[.slice (some ⟨w.heap.size, 0, none⟩) 0 0] 58)
  have f0 := Blk.new (w.alloc (.cells #[] 49)) 58 #[.slice (some ⟨w.heap.size, 0, none⟩) 0 0]
  have fo := Kd.R_mono (Kd.R_below (Kd.R_bound hO) (below_alloc (Below.refl (w.alloc (.cells #[] 49)).heap.size _) (.cells #[.slice (some ⟨w.heap.size, 0, none⟩) 0 0] 58))) (ok' := fun k => k ≠ w.heap.size + 1) (fun k hk => by have := hk.2.2.1; simp at this; omega)
  rw [show (w.alloc (.cells #[] 49)).heap.size = w.heap.size + 1 from by simp] at f0
  have HF0 := Aside0.mk f0
  have HFB := Aside0.mk fb
  have HFO := Aside0.mk fo
  clear hO fb f0 fo
  go_enter Try.func91, Try.ntmps91
  go_wp2
  go_loopg [4, 8] s.size (fun q v4 v8 w' => ∃ (i : Nat) (v : Value) (l : List Int), v8 = .int .i64 (i : Int) ∧ Aside0 (i + q = s.size) ∧ Aside0 (Limbs l ∧ val l = nval ((sb s).take i) ∧ l.length ≤ i) ∧ Aside0 (Blk w' (w.heap.size + 1) 58 #[v]) ∧ Aside0 ((Kd.int .u32).R 49 w' w.heap.size (fun k => k ≠ w.heap.size + 1) v l) ∧ Aside0 (Below w.heap.size w w'))
  case atStart => exact ⟨0, _, [], rfl, ⟨by omega⟩, ⟨Limbs.nil, rfl, Nat.le_refl _⟩, HF0, HFO, HFB⟩
  case round =>
    clear HF0 HFO HFB
    obtain ⟨i, v, l, rfl, HI, HL, HK, HR, HB⟩ := hrel
    by_cases hlt : i < s.size
    · have HX := Aside0.mk (sb_rd hlt)
      have HLT := Aside0.mk (show i < (sb s).length by rw [sb_length]; exact hlt)
      have hr := HD.out (rd (sb s) (i : Int)) (by rw [rd_lt HLT.out]; exact List.getElem_mem _)
      obtain ⟨x, hx⟩ : ∃ x, x = rd (sb s) (i : Int) := ⟨_, rfl⟩
      rw [← hx] at hr HX
      have hx0 := hr.1
      have hx1 := hr.2
      have hxx : ((s[i].toNat : Nat) : Int) = x := HX.out.symm
      have HXE := Aside0.mk hx
      clear hx hr HX
      go_wp2_with fail
      refine (grow_calls (w.heap.size + 1) w.heap.size v l 10 (x - 48) w wr HK.out HR.out HB.out HB.out.size (by omega) ⟨by omega, by omega⟩ ⟨by omega, by omega⟩ HL.out.1 (by have := HL.out.2.2; omega)).mono ?_
      rintro e w2 ⟨rfl, v', o, hk2, hr2, hb2, hs2, hl2, hv2, hn2⟩
      have HK2 := Aside0.mk hk2
      have HR2 := Aside0.mk hr2
      have HB2 := Aside0.mk hb2
      have HL2 : Aside0 (Limbs o ∧ val o = nval ((sb s).take (i + 1)) ∧ o.length ≤ i + 1) := ⟨hl2, by rw [hv2, nval_take HLT.out, HL.out.2.1, ← HXE.out]; rfl, by have := HL.out.2.2; omega⟩
      clear hk2 hr2 hb2 hs2 hl2 hv2 hn2
      go_wp2
      go_roundg (gk - 1)
      case measure => have := HI.out; omega
      case rel => exact ⟨i + 1, _, _, by go_num, ⟨by have := HI.out; omega⟩, HL2, HK2, HR2, HB2⟩
    · have hi : i = s.size := by have := HI.out; omega
      have HV : Aside0 (val l = nval (sb s)) := ⟨by have h := HL.out.2.1; rw [hi, ← sb_length, List.take_length] at h; exact h⟩
      obtain ⟨A, c, rfl⟩ := Kd.R_slice HR.out
      clear hi
      go_wp2_with fail
      refine (trim_calls (w.heap.size + 1) A c l _ HK.out (Kd.R_reads' HR.out).2.2 (Kd.R_reads' HR.out).2.1).mono ?_
      rintro e w' ⟨rfl, hg', hb'⟩
      have hRt := Kd.R_take (m := trimN l) (Kd.R_grown HR.out hg' (by rintro k hk h; injection h with h; exact hk h)) (trimN_le _)
      have he : l.take (trimN l) = lim (nval (sb s)) := by rw [← HV.out]; exact trimL_eq HL.out.1
      have hln : trimN l = (lim (nval (sb s))).length := by rw [← he]; exact (trimL_length l).symm
      rw [he, hln] at hRt
      rw [hln]
      have HRT := Aside0.mk hRt
      have HBB := Aside0.mk (HB.out.grown hg' HB.out.size (by intro k hk; injection hk with hk; omega))
      clear hRt he hln hg' hb'
      go_wp2
      go_ret
      exact ⟨_, _, rfl, Kd.R_mono HRT.out (fun _ _ => trivial), HBB.out⟩
end Go.Proofs.Ytjmgemmieedkiaa.Hand
